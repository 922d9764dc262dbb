/-
  Entries of a batch, and whether a batch may be, by the program and by the document. Conditions are typed with each.
  What bytes tell of a batch: plain laws. Conditions are typed with each.
  Cores and batches read by the program. Conditions are typed with each. (Printed by wip/gen/ec.py.)
-/
import Derived.Test.YtaggonhgafggkaaVd
import Derived.Test.YtaggonhgafggkaaRh
namespace Go.Proofs.Ytaggonhgafggkaa
open Go.RowKit
set_option maxRecDepth 100000
/-- An entry: its core, its mask. -/
structure Et where
  core : Cr
  mask : Nat
def Et.cells (e : Et) : List Value := [.int .i64 e.core.client, .int .i64 e.core.stamp, .int .i64 e.core.op, .string (strOf e.core.letter), .int .i64 e.core.a, .int .i64 e.core.b, .string (strOf e.core.text), .int .u32 e.mask]
def zEt : List Value := [.int .i64 0, .int .i64 0, .int .i64 0, .string (strOf []), .int .i64 0, .int .i64 0, .string (strOf []), .int .u32 0]
def Et.fine (e : Et) : Prop := e.mask < 4294967296 ∧ e.core.letter.length ≤ 1048576 ∧ e.core.text.length ≤ 1048576
theorem Et.len (e : Et) : e.cells.length = 8 := rfl
theorem Et.ones (e : Et) : Ones e.cells := by unfold Et.cells; (repeat (first | exact ones_nil | refine ones_cons rfl ?_))
theorem elEt : Elem Try.prog 44 54 8 80 (.agg zEt.toArray) := ⟨rfl, ⟨_, rfl, rfl, rfl, rfl, rfl, by decide⟩, rfl, rfl⟩
def etCs (es : List Et) : List Value := (es.map Et.cells).flatten
theorem etCs_snoc (es : List Et) (e : Et) : etCs (es ++ [e]) = etCs es ++ e.cells := by simp [etCs]
theorem et8 (es : List Et) : ∀ c ∈ es.map Et.cells, c.length = 8 := fun c hc => by
  obtain ⟨e, _, rfl⟩ := List.mem_map.1 hc
  rfl
theorem etCs_len (es : List Et) : (etCs es).length = es.length * 8 := by unfold etCs; rw [flat_len (et8 es), List.length_map]
/-- A row of entries that may be read. -/
def Ents (F : PH) (v : Value) (es : List Et) : Prop := SliceV F 8 v es.length (etCs es) ∧ ∀ e ∈ es, e.fine
theorem Ents.mono {F G : PH} {v : Value} {es : List Et} (h : Ents F v es) (hl : F.le G) : Ents G v es := ⟨SliceV.mono h.1 hl, h.2⟩
theorem Ents.form {F : PH} {v : Value} {es : List Et} (h : Ents F v es) : ∃ a c, v = .slice a es.length c ∧ es.length ≤ c := by
  obtain ⟨⟨_, a, c, e, hn, _⟩, _⟩ := h
  exact ⟨a, c, e, hn⟩
theorem Ents.nil (F : PH) : Ents F (.slice none 0 0) [] := ⟨SliceV.nil F 8, fun _ h => by cases h⟩
theorem Ents.at {F : PH} {a : Option Addr} {n c i : Nat} {es : List Et} {e : Et} (h : Ents F (.slice a n c) es) (hi : es[i]? = some e) : ∃ b off, a = some ⟨b, off, none⟩ ∧ Cells F b (off + i * 8) e.cells ∧ e.fine ∧ i < n := by
  obtain ⟨h1, h2⟩ := h
  have hn : n = es.length := by
    obtain ⟨_, a', c', e, _⟩ := h1
    injection e
  subst hn
  have hlt := (List.getElem?_eq_some_iff.1 hi).1
  obtain ⟨b, off, ha, hcc⟩ := h1.row (et8 es) (i := i) (r := e.cells) (by rw [List.getElem?_map, hi]; rfl) hlt
  exact ⟨b, off, ha, hcc, h2 e (List.mem_of_getElem? hi), hlt⟩
/-! whether a batch may be -/
def firstE (f : Nat → Int) : Nat → Int
  | 0 => 0
  | k + 1 => if firstE f k ≠ 0 then firstE f k else f k
theorem firstE_succ {f : Nat → Int} {i : Nat} (h : firstE f i = 0) (hf : f i = 0) : firstE f (i + 1) = 0 := by
  show (if firstE f i ≠ 0 then firstE f i else f i) = 0
  rw [if_neg (fun hh => hh h), hf]
theorem firstE_at {f : Nat → Int} {i : Nat} {x : Int} (h : firstE f i = 0) (hf : f i = x) (hx : x ≠ 0) : ∀ L, i < L → firstE f L = x
  | 0, hi => absurd hi (by omega)
  | L + 1, hi => by
    show (if firstE f L ≠ 0 then firstE f L else f L) = x
    by_cases hL : i < L
    · have := firstE_at h hf hx L hL
      rw [this, if_pos hx]
    · obtain rfl : i = L := by omega
      rw [if_neg (fun hh => hh h), hf]
def etErr (es : List Et) (n : Nat) (i : Nat) : Int := match es[i]? with
  | none => 0
  | some e => if e.core.err n ≠ 0 then e.core.err n else if e.mask >>> n ≠ 0 then 5 else match i with
    | 0 => 0
    | k + 1 => match es[k]? with
      | none => 0
      | some p => if e.core.client ≤ p.core.client then 15 else 0
def batchErr (es : List Et) (n : Int) : Int := if n < 1 ∨ 7 < n then 1 else if 4 < es.length then 4 else firstE (etErr es n.toNat) es.length
theorem etErr_c {es : List Et} {n i : Nat} {e : Et} (h : es[i]? = some e) (h1 : e.core.err n ≠ 0) : etErr es n i = e.core.err n := by unfold etErr; rw [h]; dsimp only; rw [if_pos h1]
theorem etErr_m {es : List Et} {n i : Nat} {e : Et} (h : es[i]? = some e) (h1 : e.core.err n = 0) (h2 : e.mask >>> n ≠ 0) : etErr es n i = 5 := by unfold etErr; rw [h]; dsimp only; rw [if_neg (fun hh => hh h1), if_pos h2]
theorem etErr_0 {es : List Et} {n : Nat} {e : Et} (h : es[0]? = some e) (h1 : e.core.err n = 0) (h2 : e.mask >>> n = 0) : etErr es n 0 = 0 := by unfold etErr; rw [h]; dsimp only; rw [if_neg (fun hh => hh h1), if_neg (fun hh => hh h2)]
theorem etErr_s {es : List Et} {n k : Nat} {e p : Et} (h : es[k + 1]? = some e) (hp : es[k]? = some p) (h1 : e.core.err n = 0) (h2 : e.mask >>> n = 0) : etErr es n (k + 1) = if e.core.client ≤ p.core.client then 15 else 0 := by
  unfold etErr
  rw [h]
  dsimp only
  rw [if_neg (fun hh => hh h1), if_neg (fun hh => hh h2), hp]
theorem below_iff {m n : Nat} : m >>> n = 0 ↔ m < 2 ^ n := by rw [Nat.shiftRight_eq_div_pow, Nat.div_eq_zero_iff]; have := Nat.two_pow_pos n; omega

set_option maxHeartbeats 32000000 in
theorem bcheck_spec (v : Value) (es : List Et) (n : Int) (F : PH) (h : Ents F v es) : Pure Try.prog 84 [v, .int .i64 n] F (.int .i64 (batchErr es n)) := by
  obtain ⟨a, c, rfl, hc⟩ := h.form
  refine Spec.of2 Try.func84 rfl rfl fun X w0 => ?_
  unfold batchErr
  by_cases hn : n < 1 ∨ 7 < n
  · rw [if_pos hn]
    by_cases h1 : n < 1
    · repeat (first|refine zJ rfl rfl ?_|refine jr rfl ?_|refine jn ?_|refine zM rfl rfl ?_|(refine zC rfl rfl ?_ rfl ?_;omega)|(refine zD rfl rfl ?_ rfl ?_;omega)|(refine zP rfl ?_ rfl ?_;omega)|refine zG rfl rfl rfl rfl ?_|(refine jdq rfl rfl ?_ ?_ ?_;kernel_rfl;kernel_rfl)|refine zB rfl rfl rfl (by repeat constructor) rfl ?_|refine zH .here rfl rfl rfl rfl ?_|refine zH (.there .here) rfl rfl rfl rfl ?_|refine zH (.there (.there .here)) rfl rfl rfl rfl ?_)
      exact J_retv rfl (.tmp rfl .nil) [] (fun w s => s) (PH.ler _) ⟨rfl, rfl⟩
    · have h7 : 7 < n := hn.resolve_left h1
      repeat (first|refine zJ rfl rfl ?_|refine jr rfl ?_|refine jn ?_|refine zM rfl rfl ?_|(refine zC rfl rfl ?_ rfl ?_;omega)|(refine zD rfl rfl ?_ rfl ?_;omega)|(refine zP rfl ?_ rfl ?_;omega)|refine zG rfl rfl rfl rfl ?_|(refine jdq rfl rfl ?_ ?_ ?_;kernel_rfl;kernel_rfl)|refine zB rfl rfl rfl (by repeat constructor) rfl ?_|refine zH .here rfl rfl rfl rfl ?_|refine zH (.there .here) rfl rfl rfl rfl ?_|refine zH (.there (.there .here)) rfl rfl rfl rfl ?_)
      exact J_retv rfl (.tmp rfl .nil) [] (fun w s => s) (PH.ler _) ⟨rfl, rfl⟩
  rw [if_neg hn]
  have hn1 : ¬ n < 1 := fun h => hn (.inl h)
  have hn7 : ¬ 7 < n := fun h => hn (.inr h)
  obtain ⟨m, rfl⟩ : ∃ m : Nat, n = m := ⟨n.toNat, by omega⟩
  rw [Int.toNat_natCast]
  by_cases h4 : 4 < es.length
  · rw [if_pos h4]
    repeat (first|refine zJ rfl rfl ?_|refine jr rfl ?_|refine jn ?_|refine zM rfl rfl ?_|(refine zC rfl rfl ?_ rfl ?_;omega)|(refine zD rfl rfl ?_ rfl ?_;omega)|(refine zP rfl ?_ rfl ?_;omega)|refine zG rfl rfl rfl rfl ?_|(refine jdq rfl rfl ?_ ?_ ?_;kernel_rfl;kernel_rfl)|refine zB rfl rfl rfl (by repeat constructor) rfl ?_|refine zH .here rfl rfl rfl rfl ?_|refine zH (.there .here) rfl rfl rfl rfl ?_|refine zH (.there (.there .here)) rfl rfl rfl rfl ?_)
    exact J_retv rfl (.tmp rfl .nil) [] (fun w s => s) (PH.ler _) ⟨rfl, rfl⟩
  rw [if_neg h4]
  repeat (first|refine zJ rfl rfl ?_|refine jr rfl ?_|refine jn ?_|refine zM rfl rfl ?_|(refine zC rfl rfl ?_ rfl ?_;omega)|(refine zD rfl rfl ?_ rfl ?_;omega)|(refine zP rfl ?_ rfl ?_;omega)|refine zG rfl rfl rfl rfl ?_|(refine jdq rfl rfl ?_ ?_ ?_;kernel_rfl;kernel_rfl)|refine zB rfl rfl rfl (by repeat constructor) rfl ?_|refine zH .here rfl rfl rfl rfl ?_|refine zH (.there .here) rfl rfl rfl rfl ?_|refine zH (.there (.there .here)) rfl rfl rfl rfl ?_)
  refine J_loop (ι := Nat) (fun j => j ≤ es.length ∧ firstE (etErr es m) j = 0) (fun j => es.length - j) (fun j => [(0, .slice a es.length c), (1, .int .i64 m), (19, .slice a es.length c), (20, .int .i64 es.length), (21, .int .i64 j)]) (fun _ => F) (fun _ => X) 0 ⟨Nat.zero_le _, rfl⟩ ⟨⟨rfl, rfl, rfl, rfl, rfl, trivial⟩, fun _ s => s⟩ ?_
  rintro j ⟨hj, hgood⟩
  by_cases hlt : j < es.length
  · have hg : es[j]? = some es[j] := List.getElem?_eq_getElem hlt
    obtain ⟨b, off, rfl, hcc, ⟨hf1, hf2, hf3⟩, _⟩ := h.at hg
    have hE1 := etErr_c (n := m) hg
    have hE2 := etErr_m (n := m) hg
    have hE3 : ∀ (h0 : j = 0), (es[j]).core.err m = 0 → (es[j]).mask >>> m = 0 → etErr es m j = 0 := fun h0 => by subst h0; exact etErr_0 hg
    have hE4 : ∀ k p, j = k + 1 → es[k]? = some p → (es[j]).core.err m = 0 → (es[j]).mask >>> m = 0 → etErr es m j = if (es[j]).core.client ≤ p.core.client then 15 else 0 := fun k p e hp => by subst e; exact etErr_s hg hp
    generalize es[j] = e at *
    have hck := check_spec e.core m F (by omega) (by omega)
    repeat (first|refine zJ rfl rfl ?_|refine jr rfl ?_|refine jn ?_|refine zM rfl rfl ?_|(refine zC rfl rfl ?_ rfl ?_;omega)|(refine zD rfl rfl ?_ rfl ?_;omega)|(refine zP rfl ?_ rfl ?_;omega)|refine zG rfl rfl rfl rfl ?_|(refine jdq rfl rfl ?_ ?_ ?_;kernel_rfl;kernel_rfl)|refine zB rfl rfl rfl (by repeat constructor) rfl ?_|refine zH .here rfl rfl rfl rfl ?_|refine zH (.there .here) rfl rfl rfl rfl ?_|refine zH (.there (.there .here)) rfl rfl rfl rfl ?_)
    refine oS (ev_indexAddr rfl rfl rfl hlt) rfl ?_
    refine oS (ev_load_agg (cs := e.cells) rfl rfl (Rdb.ofF hcc) rfl) rfl ?_
    refine oE (ev_alloc (cs := zEt) rfl) rfl ?_
    rintro _ _ _ _ ⟨rfl, b6, rfl, rfl⟩
    repeat (first|refine zJ rfl rfl ?_|refine jr rfl ?_|refine jn ?_|refine zM rfl rfl ?_|(refine zC rfl rfl ?_ rfl ?_;omega)|(refine zD rfl rfl ?_ rfl ?_;omega)|(refine zP rfl ?_ rfl ?_;omega)|refine zG rfl rfl rfl rfl ?_|(refine jdq rfl rfl ?_ ?_ ?_;kernel_rfl;kernel_rfl)|refine zB rfl rfl rfl (by repeat constructor) rfl ?_|refine zH .here rfl rfl rfl rfl ?_|refine zH (.there .here) rfl rfl rfl rfl ?_|refine zH (.there (.there .here)) rfl rfl rfl rfl ?_)
    refine oN (ev_store (b := b6) rfl rfl .agg rfl rfl (lay_all (zs := zEt) rfl) e.ones .here) rfl ?_
    rintro _ _ _ _ ⟨rfl, _, rfl⟩
    repeat (first|refine zJ rfl rfl ?_|refine jr rfl ?_|refine jn ?_|refine zM rfl rfl ?_|(refine zC rfl rfl ?_ rfl ?_;omega)|(refine zD rfl rfl ?_ rfl ?_;omega)|(refine zP rfl ?_ rfl ?_;omega)|refine zG rfl rfl rfl rfl ?_|(refine jdq rfl rfl ?_ ?_ ?_;kernel_rfl;kernel_rfl)|refine zB rfl rfl rfl (by repeat constructor) rfl ?_|refine zH .here rfl rfl rfl rfl ?_|refine zH (.there .here) rfl rfl rfl rfl ?_|refine zH (.there (.there .here)) rfl rfl rfl rfl ?_)
    refine oS (ev_load_agg (cs := e.core.cells) rfl rfl (Rdb.ofB (n := 0) .here rfl) rfl) rfl ?_
    by_cases g1 : e.core.err m = 0
    · rw [g1] at hck
      repeat (first|refine zJ rfl rfl ?_|refine jr rfl ?_|refine jn ?_|refine zM rfl rfl ?_|(refine zC rfl rfl ?_ rfl ?_;omega)|(refine zD rfl rfl ?_ rfl ?_;omega)|(refine zP rfl ?_ rfl ?_;omega)|refine zG rfl rfl rfl rfl ?_|(refine jdq rfl rfl ?_ ?_ ?_;kernel_rfl;kernel_rfl)|refine zB rfl rfl rfl (by repeat constructor) rfl ?_|refine zH .here rfl rfl rfl rfl ?_|refine zH (.there .here) rfl rfl rfl rfl ?_|refine zH (.there (.there .here)) rfl rfl rfl rfl ?_)
      refine oP (hck) Try.call32 rfl rfl ?_
      repeat (first|refine zJ rfl rfl ?_|refine jr rfl ?_|refine jn ?_|refine zM rfl rfl ?_|(refine zC rfl rfl ?_ rfl ?_;omega)|(refine zD rfl rfl ?_ rfl ?_;omega)|(refine zP rfl ?_ rfl ?_;omega)|refine zG rfl rfl rfl rfl ?_|(refine jdq rfl rfl ?_ ?_ ?_;kernel_rfl;kernel_rfl)|refine zB rfl rfl rfl (by repeat constructor) rfl ?_|refine zH .here rfl rfl rfl rfl ?_|refine zH (.there .here) rfl rfl rfl rfl ?_|refine zH (.there (.there .here)) rfl rfl rfl rfl ?_)
      by_cases g2 : e.mask >>> m = 0
      · cases j with
        | zero =>
          have hE := hE3 rfl g1 g2
          refine oS (ev_shr rfl rfl (show e.mask < 2 ^ 32 by omega)) rfl ?_
          generalize e.mask >>> m = q at *
          repeat (first|refine zJ rfl rfl ?_|refine jr rfl ?_|refine jn ?_|refine zM rfl rfl ?_|(refine zC rfl rfl ?_ rfl ?_;omega)|(refine zD rfl rfl ?_ rfl ?_;omega)|(refine zP rfl ?_ rfl ?_;omega)|refine zG rfl rfl rfl rfl ?_|(refine jdq rfl rfl ?_ ?_ ?_;kernel_rfl;kernel_rfl)|refine zB rfl rfl rfl (by repeat constructor) rfl ?_|refine zH .here rfl rfl rfl rfl ?_|refine zH (.there .here) rfl rfl rfl rfl ?_|refine zH (.there (.there .here)) rfl rfl rfl rfl ?_)
          refine J_again 1 ⟨hlt, firstE_succ hgood hE⟩ (by omega) ⟨⟨rfl, rfl, rfl, rfl, rfl, trivial⟩, fun w s => s.drop⟩
        | succ k =>
          have hgk : es[k]? = some (es[k]'(by omega)) := List.getElem?_eq_getElem _
          have hE := hE4 k _ rfl hgk g1 g2
          obtain ⟨b', off', hab, hcc', _, _⟩ := h.at hgk
          generalize es[k]'(by omega) = p at *
          injection hab with hab
          injection hab with hb1 hb2
          subst hb1
          subst hb2
          refine oS (ev_shr rfl rfl (show e.mask < 2 ^ 32 by omega)) rfl ?_
          generalize e.mask >>> m = q at *
          repeat (first|refine zJ rfl rfl ?_|refine jr rfl ?_|refine jn ?_|refine zM rfl rfl ?_|(refine zC rfl rfl ?_ rfl ?_;omega)|(refine zD rfl rfl ?_ rfl ?_;omega)|(refine zP rfl ?_ rfl ?_;omega)|refine zG rfl rfl rfl rfl ?_|(refine jdq rfl rfl ?_ ?_ ?_;kernel_rfl;kernel_rfl)|refine zB rfl rfl rfl (by repeat constructor) rfl ?_|refine zH .here rfl rfl rfl rfl ?_|refine zH (.there .here) rfl rfl rfl rfl ?_|refine zH (.there (.there .here)) rfl rfl rfl rfl ?_)
          refine oS (ev_indexAddr rfl (congrArg (fun z => some (Value.int .i64 z)) (show ((k + 1 : Nat) : Int) - 1 = (k : Int) by omega)) rfl (by omega)) rfl ?_
          repeat (first|refine zJ rfl rfl ?_|refine jr rfl ?_|refine jn ?_|refine zM rfl rfl ?_|(refine zC rfl rfl ?_ rfl ?_;omega)|(refine zD rfl rfl ?_ rfl ?_;omega)|(refine zP rfl ?_ rfl ?_;omega)|refine zG rfl rfl rfl rfl ?_|(refine jdq rfl rfl ?_ ?_ ?_;kernel_rfl;kernel_rfl)|refine zB rfl rfl rfl (by repeat constructor) rfl ?_|refine zH .here rfl rfl rfl rfl ?_|refine zH (.there .here) rfl rfl rfl rfl ?_|refine zH (.there (.there .here)) rfl rfl rfl rfl ?_)
          refine oS (ev_load (v := .int .i64 p.core.client) rfl rfl (Rdb.ofF (hcc'.one 0 rfl))) rfl ?_
          by_cases g3 : e.core.client ≤ p.core.client
          · rw [if_pos g3] at hE
            rw [firstE_at hgood hE (by decide) _ hlt]
            repeat (first|refine zJ rfl rfl ?_|refine jr rfl ?_|refine jn ?_|refine zM rfl rfl ?_|(refine zC rfl rfl ?_ rfl ?_;omega)|(refine zD rfl rfl ?_ rfl ?_;omega)|(refine zP rfl ?_ rfl ?_;omega)|refine zG rfl rfl rfl rfl ?_|(refine jdq rfl rfl ?_ ?_ ?_;kernel_rfl;kernel_rfl)|refine zB rfl rfl rfl (by repeat constructor) rfl ?_|refine zH .here rfl rfl rfl rfl ?_|refine zH (.there .here) rfl rfl rfl rfl ?_|refine zH (.there (.there .here)) rfl rfl rfl rfl ?_)
            exact J_retv rfl (.tmp rfl .nil) [] (fun w s => s.drop) (PH.ler _) ⟨rfl, rfl⟩
          · rw [if_neg g3] at hE
            repeat (first|refine zJ rfl rfl ?_|refine jr rfl ?_|refine jn ?_|refine zM rfl rfl ?_|(refine zC rfl rfl ?_ rfl ?_;omega)|(refine zD rfl rfl ?_ rfl ?_;omega)|(refine zP rfl ?_ rfl ?_;omega)|refine zG rfl rfl rfl rfl ?_|(refine jdq rfl rfl ?_ ?_ ?_;kernel_rfl;kernel_rfl)|refine zB rfl rfl rfl (by repeat constructor) rfl ?_|refine zH .here rfl rfl rfl rfl ?_|refine zH (.there .here) rfl rfl rfl rfl ?_|refine zH (.there (.there .here)) rfl rfl rfl rfl ?_)
            refine J_again (k + 2) ⟨hlt, firstE_succ hgood hE⟩ (by omega) ⟨⟨rfl, rfl, rfl, rfl, rfl, trivial⟩, fun w s => s.drop⟩
      · rw [firstE_at hgood (hE2 g1 g2) (by decide) _ hlt]
        refine oS (ev_shr rfl rfl (show e.mask < 2 ^ 32 by omega)) rfl ?_
        generalize e.mask >>> m = q at *
        repeat (first|refine zJ rfl rfl ?_|refine jr rfl ?_|refine jn ?_|refine zM rfl rfl ?_|(refine zC rfl rfl ?_ rfl ?_;omega)|(refine zD rfl rfl ?_ rfl ?_;omega)|(refine zP rfl ?_ rfl ?_;omega)|refine zG rfl rfl rfl rfl ?_|(refine jdq rfl rfl ?_ ?_ ?_;kernel_rfl;kernel_rfl)|refine zB rfl rfl rfl (by repeat constructor) rfl ?_|refine zH .here rfl rfl rfl rfl ?_|refine zH (.there .here) rfl rfl rfl rfl ?_|refine zH (.there (.there .here)) rfl rfl rfl rfl ?_)
        exact J_retv rfl (.tmp rfl .nil) [] (fun w s => s.drop) (PH.ler _) ⟨rfl, rfl⟩
    · rw [firstE_at hgood (hE1 g1) g1 _ hlt]
      repeat (first|refine zJ rfl rfl ?_|refine jr rfl ?_|refine jn ?_|refine zM rfl rfl ?_|(refine zC rfl rfl ?_ rfl ?_;omega)|(refine zD rfl rfl ?_ rfl ?_;omega)|(refine zP rfl ?_ rfl ?_;omega)|refine zG rfl rfl rfl rfl ?_|(refine jdq rfl rfl ?_ ?_ ?_;kernel_rfl;kernel_rfl)|refine zB rfl rfl rfl (by repeat constructor) rfl ?_|refine zH .here rfl rfl rfl rfl ?_|refine zH (.there .here) rfl rfl rfl rfl ?_|refine zH (.there (.there .here)) rfl rfl rfl rfl ?_)
      refine oP (hck) Try.call32 rfl rfl ?_
      repeat (first|refine zJ rfl rfl ?_|refine jr rfl ?_|refine jn ?_|refine zM rfl rfl ?_|(refine zC rfl rfl ?_ rfl ?_;omega)|(refine zD rfl rfl ?_ rfl ?_;omega)|(refine zP rfl ?_ rfl ?_;omega)|refine zG rfl rfl rfl rfl ?_|(refine jdq rfl rfl ?_ ?_ ?_;kernel_rfl;kernel_rfl)|refine zB rfl rfl rfl (by repeat constructor) rfl ?_|refine zH .here rfl rfl rfl rfl ?_|refine zH (.there .here) rfl rfl rfl rfl ?_|refine zH (.there (.there .here)) rfl rfl rfl rfl ?_)
      exact J_retv rfl (.tmp rfl .nil) [] (fun w s => s.drop) (PH.ler _) ⟨rfl, rfl⟩
  · obtain rfl : j = es.length := by omega
    rw [hgood]
    repeat (first|refine zJ rfl rfl ?_|refine jr rfl ?_|refine jn ?_|refine zM rfl rfl ?_|(refine zC rfl rfl ?_ rfl ?_;omega)|(refine zD rfl rfl ?_ rfl ?_;omega)|(refine zP rfl ?_ rfl ?_;omega)|refine zG rfl rfl rfl rfl ?_|(refine jdq rfl rfl ?_ ?_ ?_;kernel_rfl;kernel_rfl)|refine zB rfl rfl rfl (by repeat constructor) rfl ?_|refine zH .here rfl rfl rfl rfl ?_|refine zH (.there .here) rfl rfl rfl rfl ?_|refine zH (.there (.there .here)) rfl rfl rfl rfl ?_)
    exact J_retv rfl (.tmp rfl .nil) [] (fun w s => s) (PH.ler _) ⟨rfl, rfl⟩
set_option maxHeartbeats 32000000 in
theorem BCheck_spec (v : Value) (es : List Et) (n : Int) (F : PH) (h : Ents F v es) : Pure Try.prog 27 [v, .int .i64 n] F (.int .i64 (batchErr es n)) := by
  obtain ⟨a, c, rfl, hc⟩ := h.form
  refine Spec.of2 Try.func27 rfl rfl fun X w0 => ?_
  unfold batchErr
  by_cases hn : n < 1 ∨ 7 < n
  · rw [if_pos hn]
    by_cases h1 : n < 1
    · repeat (first|refine zJ rfl rfl ?_|refine jr rfl ?_|refine jn ?_|refine zM rfl rfl ?_|(refine zC rfl rfl ?_ rfl ?_;omega)|(refine zD rfl rfl ?_ rfl ?_;omega)|(refine zP rfl ?_ rfl ?_;omega)|refine zG rfl rfl rfl rfl ?_|(refine jdq rfl rfl ?_ ?_ ?_;kernel_rfl;kernel_rfl)|refine zB rfl rfl rfl (by repeat constructor) rfl ?_|refine zH .here rfl rfl rfl rfl ?_|refine zH (.there .here) rfl rfl rfl rfl ?_|refine zH (.there (.there .here)) rfl rfl rfl rfl ?_)
      exact J_retv rfl (.tmp rfl .nil) [] (fun w s => s) (PH.ler _) ⟨rfl, rfl⟩
    · have h7 : 7 < n := hn.resolve_left h1
      repeat (first|refine zJ rfl rfl ?_|refine jr rfl ?_|refine jn ?_|refine zM rfl rfl ?_|(refine zC rfl rfl ?_ rfl ?_;omega)|(refine zD rfl rfl ?_ rfl ?_;omega)|(refine zP rfl ?_ rfl ?_;omega)|refine zG rfl rfl rfl rfl ?_|(refine jdq rfl rfl ?_ ?_ ?_;kernel_rfl;kernel_rfl)|refine zB rfl rfl rfl (by repeat constructor) rfl ?_|refine zH .here rfl rfl rfl rfl ?_|refine zH (.there .here) rfl rfl rfl rfl ?_|refine zH (.there (.there .here)) rfl rfl rfl rfl ?_)
      exact J_retv rfl (.tmp rfl .nil) [] (fun w s => s) (PH.ler _) ⟨rfl, rfl⟩
  rw [if_neg hn]
  have hn1 : ¬ n < 1 := fun h => hn (.inl h)
  have hn7 : ¬ 7 < n := fun h => hn (.inr h)
  obtain ⟨m, rfl⟩ : ∃ m : Nat, n = m := ⟨n.toNat, by omega⟩
  rw [Int.toNat_natCast]
  by_cases h4 : 4 < es.length
  · rw [if_pos h4]
    repeat (first|refine zJ rfl rfl ?_|refine jr rfl ?_|refine jn ?_|refine zM rfl rfl ?_|(refine zC rfl rfl ?_ rfl ?_;omega)|(refine zD rfl rfl ?_ rfl ?_;omega)|(refine zP rfl ?_ rfl ?_;omega)|refine zG rfl rfl rfl rfl ?_|(refine jdq rfl rfl ?_ ?_ ?_;kernel_rfl;kernel_rfl)|refine zB rfl rfl rfl (by repeat constructor) rfl ?_|refine zH .here rfl rfl rfl rfl ?_|refine zH (.there .here) rfl rfl rfl rfl ?_|refine zH (.there (.there .here)) rfl rfl rfl rfl ?_)
    exact J_retv rfl (.tmp rfl .nil) [] (fun w s => s) (PH.ler _) ⟨rfl, rfl⟩
  rw [if_neg h4]
  repeat (first|refine zJ rfl rfl ?_|refine jr rfl ?_|refine jn ?_|refine zM rfl rfl ?_|(refine zC rfl rfl ?_ rfl ?_;omega)|(refine zD rfl rfl ?_ rfl ?_;omega)|(refine zP rfl ?_ rfl ?_;omega)|refine zG rfl rfl rfl rfl ?_|(refine jdq rfl rfl ?_ ?_ ?_;kernel_rfl;kernel_rfl)|refine zB rfl rfl rfl (by repeat constructor) rfl ?_|refine zH .here rfl rfl rfl rfl ?_|refine zH (.there .here) rfl rfl rfl rfl ?_|refine zH (.there (.there .here)) rfl rfl rfl rfl ?_)
  refine J_loop (ι := Nat) (fun i => i ≤ m) (fun i => m - i) (fun i => [(0, .slice a es.length c), (1, .int .i64 m), (5, .int .u32 ((2 ^ i : Nat) : Int)), (6, .int .i64 i)]) (fun _ => F) (fun _ => X) 0 (Nat.zero_le _) ⟨⟨rfl, rfl, rfl, rfl, trivial⟩, fun _ s => s⟩ ?_
  intro i hi
  by_cases hlt : i < m
  · have hp : 2 ^ i ≤ 2 ^ 7 := Nat.pow_le_pow_right (by omega) (by omega)
    have hp1 : 2 ^ (i + 1) = 2 ^ i * 2 := Nat.pow_succ _ _
    rw [show (2 : Nat) ^ 7 = 128 from rfl] at hp
    generalize hq : 2 ^ i = q at *
    repeat (first|refine zJ rfl rfl ?_|refine jr rfl ?_|refine jn ?_|refine zM rfl rfl ?_|(refine zC rfl rfl ?_ rfl ?_;omega)|(refine zD rfl rfl ?_ rfl ?_;omega)|(refine zP rfl ?_ rfl ?_;omega)|refine zG rfl rfl rfl rfl ?_|(refine jdq rfl rfl ?_ ?_ ?_;kernel_rfl;kernel_rfl)|refine zB rfl rfl rfl (by repeat constructor) rfl ?_|refine zH .here rfl rfl rfl rfl ?_|refine zH (.there .here) rfl rfl rfl rfl ?_|refine zH (.there (.there .here)) rfl rfl rfl rfl ?_)
    refine J_again (i + 1) hlt (by omega) ⟨⟨rfl, rfl, ?_, rfl, trivial⟩, fun w s => s⟩
    rw [hp1, Int.natCast_mul]
    rfl
  obtain rfl : i = m := by omega
  repeat (first|refine zJ rfl rfl ?_|refine jr rfl ?_|refine jn ?_|refine zM rfl rfl ?_|(refine zC rfl rfl ?_ rfl ?_;omega)|(refine zD rfl rfl ?_ rfl ?_;omega)|(refine zP rfl ?_ rfl ?_;omega)|refine zG rfl rfl rfl rfl ?_|(refine jdq rfl rfl ?_ ?_ ?_;kernel_rfl;kernel_rfl)|refine zB rfl rfl rfl (by repeat constructor) rfl ?_|refine zH .here rfl rfl rfl rfl ?_|refine zH (.there .here) rfl rfl rfl rfl ?_|refine zH (.there (.there .here)) rfl rfl rfl rfl ?_)
  refine J_loop (ι := Nat) (fun j => j ≤ es.length ∧ firstE (etErr es i) j = 0) (fun j => es.length - j) (fun j => [(0, .slice a es.length c), (1, .int .i64 i), (5, .int .u32 ((2 ^ i : Nat) : Int)), (26, .slice a es.length c), (27, .int .i64 es.length), (28, .int .i64 j)]) (fun _ => F) (fun _ => X) 0 ⟨Nat.zero_le _, rfl⟩ ⟨⟨rfl, rfl, rfl, rfl, rfl, rfl, trivial⟩, fun _ s => s⟩ ?_
  rintro j ⟨hj, hgood⟩
  by_cases hlt : j < es.length
  · have hg : es[j]? = some es[j] := List.getElem?_eq_getElem hlt
    obtain ⟨b, off, rfl, hcc, ⟨hf1, hf2, hf3⟩, _⟩ := h.at hg
    have hE1 := etErr_c (n := i) hg
    have hE2 := etErr_m (n := i) hg
    have hE3 : ∀ (h0 : j = 0), (es[j]).core.err i = 0 → (es[j]).mask >>> i = 0 → etErr es i j = 0 := fun h0 => by subst h0; exact etErr_0 hg
    have hE4 : ∀ k p, j = k + 1 → es[k]? = some p → (es[j]).core.err i = 0 → (es[j]).mask >>> i = 0 → etErr es i j = if (es[j]).core.client ≤ p.core.client then 15 else 0 := fun k p e hp => by subst e; exact etErr_s hg hp
    generalize es[j] = e at *
    have hck := Check_spec e.core i F (by omega) (by omega)
    repeat (first|refine zJ rfl rfl ?_|refine jr rfl ?_|refine jn ?_|refine zM rfl rfl ?_|(refine zC rfl rfl ?_ rfl ?_;omega)|(refine zD rfl rfl ?_ rfl ?_;omega)|(refine zP rfl ?_ rfl ?_;omega)|refine zG rfl rfl rfl rfl ?_|(refine jdq rfl rfl ?_ ?_ ?_;kernel_rfl;kernel_rfl)|refine zB rfl rfl rfl (by repeat constructor) rfl ?_|refine zH .here rfl rfl rfl rfl ?_|refine zH (.there .here) rfl rfl rfl rfl ?_|refine zH (.there (.there .here)) rfl rfl rfl rfl ?_)
    refine oS (ev_indexAddr rfl rfl rfl hlt) rfl ?_
    refine oS (ev_load_agg (cs := e.cells) rfl rfl (Rdb.ofF hcc) rfl) rfl ?_
    refine oE (ev_alloc (cs := zEt) rfl) rfl ?_
    rintro _ _ _ _ ⟨rfl, b6, rfl, rfl⟩
    repeat (first|refine zJ rfl rfl ?_|refine jr rfl ?_|refine jn ?_|refine zM rfl rfl ?_|(refine zC rfl rfl ?_ rfl ?_;omega)|(refine zD rfl rfl ?_ rfl ?_;omega)|(refine zP rfl ?_ rfl ?_;omega)|refine zG rfl rfl rfl rfl ?_|(refine jdq rfl rfl ?_ ?_ ?_;kernel_rfl;kernel_rfl)|refine zB rfl rfl rfl (by repeat constructor) rfl ?_|refine zH .here rfl rfl rfl rfl ?_|refine zH (.there .here) rfl rfl rfl rfl ?_|refine zH (.there (.there .here)) rfl rfl rfl rfl ?_)
    refine oN (ev_store (b := b6) rfl rfl .agg rfl rfl (lay_all (zs := zEt) rfl) e.ones .here) rfl ?_
    rintro _ _ _ _ ⟨rfl, _, rfl⟩
    repeat (first|refine zJ rfl rfl ?_|refine jr rfl ?_|refine jn ?_|refine zM rfl rfl ?_|(refine zC rfl rfl ?_ rfl ?_;omega)|(refine zD rfl rfl ?_ rfl ?_;omega)|(refine zP rfl ?_ rfl ?_;omega)|refine zG rfl rfl rfl rfl ?_|(refine jdq rfl rfl ?_ ?_ ?_;kernel_rfl;kernel_rfl)|refine zB rfl rfl rfl (by repeat constructor) rfl ?_|refine zH .here rfl rfl rfl rfl ?_|refine zH (.there .here) rfl rfl rfl rfl ?_|refine zH (.there (.there .here)) rfl rfl rfl rfl ?_)
    refine oS (ev_load_agg (cs := e.core.cells) rfl rfl (Rdb.ofB (n := 0) .here rfl) rfl) rfl ?_
    by_cases g1 : e.core.err i = 0
    · rw [g1] at hck
      repeat (first|refine zJ rfl rfl ?_|refine jr rfl ?_|refine jn ?_|refine zM rfl rfl ?_|(refine zC rfl rfl ?_ rfl ?_;omega)|(refine zD rfl rfl ?_ rfl ?_;omega)|(refine zP rfl ?_ rfl ?_;omega)|refine zG rfl rfl rfl rfl ?_|(refine jdq rfl rfl ?_ ?_ ?_;kernel_rfl;kernel_rfl)|refine zB rfl rfl rfl (by repeat constructor) rfl ?_|refine zH .here rfl rfl rfl rfl ?_|refine zH (.there .here) rfl rfl rfl rfl ?_|refine zH (.there (.there .here)) rfl rfl rfl rfl ?_)
      refine oP (hck) Try.call33 rfl rfl ?_
      have hbl := below_iff (m := e.mask) (n := i)
      have hp : 2 ^ i ≤ 2 ^ 7 := Nat.pow_le_pow_right (by omega) (by omega)
      rw [show (2 : Nat) ^ 7 = 128 from rfl] at hp
      generalize hq2 : 2 ^ i = q2 at *
      by_cases g2 : e.mask >>> i = 0
      · cases j with
        | zero =>
          have hE := hE3 rfl g1 g2
          have hlt2 := hbl.1 g2
          repeat (first|refine zJ rfl rfl ?_|refine jr rfl ?_|refine jn ?_|refine zM rfl rfl ?_|(refine zC rfl rfl ?_ rfl ?_;omega)|(refine zD rfl rfl ?_ rfl ?_;omega)|(refine zP rfl ?_ rfl ?_;omega)|refine zG rfl rfl rfl rfl ?_|(refine jdq rfl rfl ?_ ?_ ?_;kernel_rfl;kernel_rfl)|refine zB rfl rfl rfl (by repeat constructor) rfl ?_|refine zH .here rfl rfl rfl rfl ?_|refine zH (.there .here) rfl rfl rfl rfl ?_|refine zH (.there (.there .here)) rfl rfl rfl rfl ?_)
          refine J_again 1 ⟨hlt, firstE_succ hgood hE⟩ (by omega) ⟨⟨rfl, rfl, rfl, rfl, rfl, rfl, trivial⟩, fun w s => s.drop⟩
        | succ k =>
          have hgk : es[k]? = some (es[k]'(by omega)) := List.getElem?_eq_getElem _
          have hE := hE4 k _ rfl hgk g1 g2
          obtain ⟨b', off', hab, hcc', _, _⟩ := h.at hgk
          generalize es[k]'(by omega) = p at *
          injection hab with hab
          injection hab with hb1 hb2
          subst hb1
          subst hb2
          have hlt2 := hbl.1 g2
          repeat (first|refine zJ rfl rfl ?_|refine jr rfl ?_|refine jn ?_|refine zM rfl rfl ?_|(refine zC rfl rfl ?_ rfl ?_;omega)|(refine zD rfl rfl ?_ rfl ?_;omega)|(refine zP rfl ?_ rfl ?_;omega)|refine zG rfl rfl rfl rfl ?_|(refine jdq rfl rfl ?_ ?_ ?_;kernel_rfl;kernel_rfl)|refine zB rfl rfl rfl (by repeat constructor) rfl ?_|refine zH .here rfl rfl rfl rfl ?_|refine zH (.there .here) rfl rfl rfl rfl ?_|refine zH (.there (.there .here)) rfl rfl rfl rfl ?_)
          refine oS (ev_indexAddr rfl (congrArg (fun z => some (Value.int .i64 z)) (show ((k + 1 : Nat) : Int) - 1 = (k : Int) by omega)) rfl (by omega)) rfl ?_
          repeat (first|refine zJ rfl rfl ?_|refine jr rfl ?_|refine jn ?_|refine zM rfl rfl ?_|(refine zC rfl rfl ?_ rfl ?_;omega)|(refine zD rfl rfl ?_ rfl ?_;omega)|(refine zP rfl ?_ rfl ?_;omega)|refine zG rfl rfl rfl rfl ?_|(refine jdq rfl rfl ?_ ?_ ?_;kernel_rfl;kernel_rfl)|refine zB rfl rfl rfl (by repeat constructor) rfl ?_|refine zH .here rfl rfl rfl rfl ?_|refine zH (.there .here) rfl rfl rfl rfl ?_|refine zH (.there (.there .here)) rfl rfl rfl rfl ?_)
          refine oS (ev_load (v := .int .i64 p.core.client) rfl rfl (Rdb.ofF (hcc'.one 0 rfl))) rfl ?_
          by_cases g3 : e.core.client ≤ p.core.client
          · rw [if_pos g3] at hE
            rw [firstE_at hgood hE (by decide) _ hlt]
            repeat (first|refine zJ rfl rfl ?_|refine jr rfl ?_|refine jn ?_|refine zM rfl rfl ?_|(refine zC rfl rfl ?_ rfl ?_;omega)|(refine zD rfl rfl ?_ rfl ?_;omega)|(refine zP rfl ?_ rfl ?_;omega)|refine zG rfl rfl rfl rfl ?_|(refine jdq rfl rfl ?_ ?_ ?_;kernel_rfl;kernel_rfl)|refine zB rfl rfl rfl (by repeat constructor) rfl ?_|refine zH .here rfl rfl rfl rfl ?_|refine zH (.there .here) rfl rfl rfl rfl ?_|refine zH (.there (.there .here)) rfl rfl rfl rfl ?_)
            exact J_retv rfl (.tmp rfl .nil) [] (fun w s => s.drop) (PH.ler _) ⟨rfl, rfl⟩
          · rw [if_neg g3] at hE
            repeat (first|refine zJ rfl rfl ?_|refine jr rfl ?_|refine jn ?_|refine zM rfl rfl ?_|(refine zC rfl rfl ?_ rfl ?_;omega)|(refine zD rfl rfl ?_ rfl ?_;omega)|(refine zP rfl ?_ rfl ?_;omega)|refine zG rfl rfl rfl rfl ?_|(refine jdq rfl rfl ?_ ?_ ?_;kernel_rfl;kernel_rfl)|refine zB rfl rfl rfl (by repeat constructor) rfl ?_|refine zH .here rfl rfl rfl rfl ?_|refine zH (.there .here) rfl rfl rfl rfl ?_|refine zH (.there (.there .here)) rfl rfl rfl rfl ?_)
            refine J_again (k + 2) ⟨hlt, firstE_succ hgood hE⟩ (by omega) ⟨⟨rfl, rfl, rfl, rfl, rfl, rfl, trivial⟩, fun w s => s.drop⟩
      · rw [firstE_at hgood (hE2 g1 g2) (by decide) _ hlt]
        have hge2 : q2 ≤ e.mask := by rcases Nat.lt_or_ge e.mask q2 with hx | hx; exact absurd (hbl.2 hx) g2; exact hx
        repeat (first|refine zJ rfl rfl ?_|refine jr rfl ?_|refine jn ?_|refine zM rfl rfl ?_|(refine zC rfl rfl ?_ rfl ?_;omega)|(refine zD rfl rfl ?_ rfl ?_;omega)|(refine zP rfl ?_ rfl ?_;omega)|refine zG rfl rfl rfl rfl ?_|(refine jdq rfl rfl ?_ ?_ ?_;kernel_rfl;kernel_rfl)|refine zB rfl rfl rfl (by repeat constructor) rfl ?_|refine zH .here rfl rfl rfl rfl ?_|refine zH (.there .here) rfl rfl rfl rfl ?_|refine zH (.there (.there .here)) rfl rfl rfl rfl ?_)
        exact J_retv rfl (.tmp rfl .nil) [] (fun w s => s.drop) (PH.ler _) ⟨rfl, rfl⟩
    · rw [firstE_at hgood (hE1 g1) g1 _ hlt]
      repeat (first|refine zJ rfl rfl ?_|refine jr rfl ?_|refine jn ?_|refine zM rfl rfl ?_|(refine zC rfl rfl ?_ rfl ?_;omega)|(refine zD rfl rfl ?_ rfl ?_;omega)|(refine zP rfl ?_ rfl ?_;omega)|refine zG rfl rfl rfl rfl ?_|(refine jdq rfl rfl ?_ ?_ ?_;kernel_rfl;kernel_rfl)|refine zB rfl rfl rfl (by repeat constructor) rfl ?_|refine zH .here rfl rfl rfl rfl ?_|refine zH (.there .here) rfl rfl rfl rfl ?_|refine zH (.there (.there .here)) rfl rfl rfl rfl ?_)
      refine oP (hck) Try.call33 rfl rfl ?_
      repeat (first|refine zJ rfl rfl ?_|refine jr rfl ?_|refine jn ?_|refine zM rfl rfl ?_|(refine zC rfl rfl ?_ rfl ?_;omega)|(refine zD rfl rfl ?_ rfl ?_;omega)|(refine zP rfl ?_ rfl ?_;omega)|refine zG rfl rfl rfl rfl ?_|(refine jdq rfl rfl ?_ ?_ ?_;kernel_rfl;kernel_rfl)|refine zB rfl rfl rfl (by repeat constructor) rfl ?_|refine zH .here rfl rfl rfl rfl ?_|refine zH (.there .here) rfl rfl rfl rfl ?_|refine zH (.there (.there .here)) rfl rfl rfl rfl ?_)
      exact J_retv rfl (.tmp rfl .nil) [] (fun w s => s.drop) (PH.ler _) ⟨rfl, rfl⟩
  · obtain rfl : j = es.length := by omega
    rw [hgood]
    repeat (first|refine zJ rfl rfl ?_|refine jr rfl ?_|refine jn ?_|refine zM rfl rfl ?_|(refine zC rfl rfl ?_ rfl ?_;omega)|(refine zD rfl rfl ?_ rfl ?_;omega)|(refine zP rfl ?_ rfl ?_;omega)|refine zG rfl rfl rfl rfl ?_|(refine jdq rfl rfl ?_ ?_ ?_;kernel_rfl;kernel_rfl)|refine zB rfl rfl rfl (by repeat constructor) rfl ?_|refine zH .here rfl rfl rfl rfl ?_|refine zH (.there .here) rfl rfl rfl rfl ?_|refine zH (.there (.there .here)) rfl rfl rfl rfl ?_)
    exact J_retv rfl (.tmp rfl .nil) [] (fun w s => s) (PH.ler _) ⟨rfl, rfl⟩
end Go.Proofs.Ytaggonhgafggkaa
namespace Go.Proofs.Ytaggonhgafggkaa
open Go.RowKit
set_option maxRecDepth 100000
/-- One entry read: it, whether its core is of a core's form, the error, what is left. -/
def entR (m : Int) (e : Int) (bs : List UInt8) : Et × Bool × Int × List UInt8 :=
  let r := rowR e bs m
  let q := coreR r.1.length r.1
  let k := numR r.2.1 r.2.2 1
  (⟨q.1, k.1⟩, decide (endR q.2.1 q.2.2 = 0), k.2)
def entStep (m : Int) (s : Bool × List Et × Int × List UInt8) : Bool × List Et × Int × List UInt8 :=
  (s.1 && (entR m s.2.2.1 s.2.2.2).2.1, s.2.1 ++ [(entR m s.2.2.1 s.2.2.2).1], (entR m s.2.2.1 s.2.2.2).2.2)
/-- So many: whether all are of form, they, the error, what is left. -/
def entsR (m : Int) (e : Int) (bs : List UInt8) : Nat → Bool × List Et × Int × List UInt8
  | 0 => (true, [], e, bs)
  | j + 1 => entStep m (entsR m e bs j)
theorem entsR_step (m : Int) (e : Int) (bs : List UInt8) (j : Nat) : entsR m e bs (j + 1) = entStep m (entsR m e bs j) := rfl
theorem entStep_eq (m : Int) (s : Bool × List Et × Int × List UInt8) : entStep m s = (s.1 && (entR m s.2.2.1 s.2.2.2).2.1, s.2.1 ++ [(entR m s.2.2.1 s.2.2.2).1], (entR m s.2.2.1 s.2.2.2).2.2) := rfl
theorem entsR_succ (m : Int) (e : Int) (bs : List UInt8) (j : Nat) : entsR m e bs (j + 1) = ((entsR m e bs j).1 && (entR m (entsR m e bs j).2.2.1 (entsR m e bs j).2.2.2).2.1, (entsR m e bs j).2.1 ++ [(entR m (entsR m e bs j).2.2.1 (entsR m e bs j).2.2.2).1], (entR m (entsR m e bs j).2.2.1 (entsR m e bs j).2.2.2).2.2) := by
  rw [entsR_step, entStep_eq]
def batR (bs : List UInt8) : Bool × List Et × Int × List UInt8 := entsR bs.length (numR 0 bs 2).2.1 (numR 0 bs 2).2.2 (numR 0 bs 2).1
def batchP (bs : List UInt8) (n : Int) : List Et × Int :=
  if (batR bs).1 = false ∨ endR (batR bs).2.2.1 (batR bs).2.2.2 ≠ 0 then ([], 2) else if batchErr (batR bs).2.1 n ≠ 0 then ([], batchErr (batR bs).2.1 n) else ((batR bs).2.1, 0)
theorem rowR_none {e : Int} {bs : List UInt8} {m : Int} (h : (rowR e bs m).2.1 ≠ 0) : (rowR e bs m).1 = [] := by
  rw [rowR_eq] at h ⊢
  split
  · rfl
  · split
    · rfl
    · rename_i h1 h2
      rw [if_neg h1, if_neg h2] at h
      exact fixR_bad h
theorem coreR_nil (m : Int) : endR (coreR m []).2.1 (coreR m []).2.2 ≠ 0 := by
  have h1 : numR 0 [] 1 = (0, 2, []) := rfl
  have h2 : (2 : Int) ≠ 0 := by decide
  unfold coreR
  dsimp only
  rw [h1]
  dsimp only
  rw [numR_stick h2]
  dsimp only
  rw [numR_stick h2]
  dsimp only
  rw [rowR_stick h2]
  dsimp only
  rw [numR_stick h2]
  dsimp only
  rw [numR_stick h2]
  dsimp only
  rw [rowR_stick h2]
  exact endR_bad h2 _
theorem coreR_key {bs : List UInt8} {k : Int} (hk : bs.length ≤ k) : (coreR k bs = coreR bs.length bs) ∨ ((coreR k bs).2.1 ≠ 0 ∧ (coreR bs.length bs).2.1 ≠ 0) := by
  have n1 := numR_rest 0 bs 1
  unfold coreR
  dsimp only
  generalize numR 0 bs 1 = r1 at *
  have n2 := numR_rest r1.2.1 r1.2.2 8
  generalize numR r1.2.1 r1.2.2 8 = r2 at *
  have n3 := numR_rest r2.2.1 r2.2.2 1
  generalize numR r2.2.1 r2.2.2 1 = r3 at *
  rcases rowR_most (e := r3.2.1) (bs := r3.2.2) (m := k) (m' := bs.length) (by omega) (by omega) with e4 | ⟨e4, e4'⟩
  · rw [e4]
    have n4 := rowR_rest' r3.2.1 r3.2.2 bs.length
    generalize rowR r3.2.1 r3.2.2 bs.length = r4 at *
    have n5 := numR_rest r4.2.1 r4.2.2 8
    generalize numR r4.2.1 r4.2.2 8 = r5 at *
    have n6 := numR_rest r5.2.1 r5.2.2 8
    generalize numR r5.2.1 r5.2.2 8 = r6 at *
    rcases rowR_most (e := r6.2.1) (bs := r6.2.2) (m := k) (m' := bs.length) (by omega) (by omega) with e7 | ⟨e7, e7'⟩
    · left; rw [e7]
    · right; exact ⟨e7, e7'⟩
  · right
    rw [numR_stick e4, numR_stick e4', numR_stick e4, numR_stick e4', rowR_stick e4, rowR_stick e4']
    exact ⟨e4, e4'⟩
theorem entR_ok {m e : Int} {bs : List UInt8} (h : (entR m e bs).2.1 = true) : e = 0 ∧ (entR m e bs).2.2.2.length + 1 ≤ bs.length := by
  unfold entR at h ⊢
  dsimp only at h ⊢
  have h0 := of_decide_eq_true h
  by_cases hr : (rowR e bs m).2.1 = 0
  · have hs := rowR_sum hr
    have hn := numR_rest (rowR e bs m).2.1 (rowR e bs m).2.2 1
    exact ⟨hs.1, by omega⟩
  · rw [rowR_none hr] at h0
    exact absurd h0 (coreR_nil _)
theorem entR_rest (m e : Int) (bs : List UInt8) : (entR m e bs).2.2.2.length ≤ bs.length := Nat.le_trans (numR_rest _ _ _) (rowR_rest' _ _ _)
theorem entR_bad {m e : Int} {bs : List UInt8} (he : e ≠ 0) : (entR m e bs).2.1 = false := by
  cases h : (entR m e bs).2.1 with
  | false => rfl
  | true => exact absurd (entR_ok h).1 he
theorem entR_fine {m e : Int} {bs : List UInt8} (hl : bs.length ≤ 1048576) : (entR m e bs).1.fine := by
  have h1 := rowR_short e bs m
  have hk := numR_lt (rowR e bs m).2.1 (rowR e bs m).2.2 1
  unfold entR
  dsimp only
  generalize rowR e bs m = r at *
  refine ⟨Nat.lt_of_lt_of_le hk (by decide), ?_, ?_⟩
  · unfold coreR
    dsimp only
    have n1 := numR_rest 0 r.1 1
    generalize numR 0 r.1 1 = r1 at *
    have n2 := numR_rest r1.2.1 r1.2.2 8
    generalize numR r1.2.1 r1.2.2 8 = r2 at *
    have n3 := numR_rest r2.2.1 r2.2.2 1
    generalize numR r2.2.1 r2.2.2 1 = r3 at *
    have := rowR_short r3.2.1 r3.2.2 (r.1.length : Int)
    omega
  · unfold coreR
    dsimp only
    have n1 := numR_rest 0 r.1 1
    generalize numR 0 r.1 1 = r1 at *
    have n2 := numR_rest r1.2.1 r1.2.2 8
    generalize numR r1.2.1 r1.2.2 8 = r2 at *
    have n3 := numR_rest r2.2.1 r2.2.2 1
    generalize numR r2.2.1 r2.2.2 1 = r3 at *
    have n4 := rowR_rest' r3.2.1 r3.2.2 (r.1.length : Int)
    generalize rowR r3.2.1 r3.2.2 (r.1.length : Int) = r4 at *
    have n5 := numR_rest r4.2.1 r4.2.2 8
    generalize numR r4.2.1 r4.2.2 8 = r5 at *
    have n6 := numR_rest r5.2.1 r5.2.2 8
    generalize numR r5.2.1 r5.2.2 8 = r6 at *
    have := rowR_short r6.2.1 r6.2.2 (r.1.length : Int)
    omega
theorem entsR_rest (m e : Int) (bs : List UInt8) (j : Nat) : (entsR m e bs j).2.2.2.length ≤ bs.length := by
  induction j with
  | zero => exact Nat.le_refl _
  | succ j ih => rw [entsR_succ]; exact Nat.le_trans (entR_rest _ _ _) ih
theorem entsR_len (m e : Int) (bs : List UInt8) (j : Nat) : (entsR m e bs j).2.1.length = j := by
  induction j with
  | zero => rfl
  | succ j ih => rw [entsR_succ]; simp [ih]
theorem entsR_fine {m e : Int} {bs : List UInt8} (hl : bs.length ≤ 1048576) (j : Nat) : ∀ x ∈ (entsR m e bs j).2.1, x.fine := by
  induction j with
  | zero => intro x h; cases h
  | succ j ih =>
    rw [entsR_succ]
    intro x h
    rcases List.mem_append.1 h with h | h
    · exact ih x h
    · rw [List.mem_singleton] at h
      subst h
      exact entR_fine (Nat.le_trans (entsR_rest _ _ _ _) hl)
theorem entsR_f {m e : Int} {bs : List UInt8} {j : Nat} (h : (entsR m e bs j).1 = false) : ∀ i, (entsR m e bs (j + i)).1 = false
  | 0 => h
  | i + 1 => by
    have := entsR_f h i
    rw [← Nat.add_assoc, entsR_succ, this]
    rfl
theorem entsR_t {m e : Int} {bs : List UInt8} {j : Nat} (h : (entsR m e bs j).1 = true) : (entsR m e bs j).2.2.2.length + j ≤ bs.length := by
  induction j with
  | zero => exact Nat.le_refl _
  | succ j ih =>
    rw [entsR_succ] at h ⊢
    dsimp only at h ⊢
    rw [Bool.and_eq_true] at h
    have h1 := ih h.1
    have h2 := (entR_ok h.2).2
    omega
theorem entsR_stop {m e : Int} {bs : List UInt8} {j k : Nat} (hj : j < k) (h : (entR m (entsR m e bs j).2.2.1 (entsR m e bs j).2.2.2).2.1 = false) : (entsR m e bs k).1 = false := by
  have h1 : (entsR m e bs (j + 1)).1 = false := by rw [entsR_succ]; dsimp only; rw [h, Bool.and_false]
  have := entsR_f h1 (k - (j + 1))
  rwa [show j + 1 + (k - (j + 1)) = k from by omega] at this
/-- The document's reading of one entry. -/
theorem entR_doc {m e : Int} {bs : List UInt8} {r : List UInt8 × Int × List UInt8} {q : Cr × Int × List UInt8} {k : Nat × Int × List UInt8} (hm : (bs.length : Int) ≤ m) (hl : bs.length ≤ 1048576) (hr : rowR e bs 1048576 = r) (hq : coreR 1048576 r.1 = q) (hk : numR r.2.1 r.2.2 1 = k) :
    (endR q.2.1 q.2.2 = 0 → entR m e bs = (⟨q.1, k.1⟩, true, k.2)) ∧ (endR q.2.1 q.2.2 ≠ 0 → (entR m e bs).2.1 = false) := by
  subst hr
  rcases rowR_most (e := e) (bs := bs) (m := 1048576) (m' := m) (by omega) hm with h1 | ⟨h1, h2⟩
  · unfold entR
    rw [← h1]
    dsimp only
    rw [hk]
    have hs := rowR_short e bs 1048576
    rcases coreR_key (bs := (rowR e bs 1048576).1) (k := 1048576) (by omega) with h3 | ⟨h3, h4⟩
    · rw [← h3, hq]
      exact ⟨fun h => by rw [decide_eq_true h], fun h => decide_eq_false h⟩
    · rw [hq] at h3
      exact ⟨fun h => absurd h (endR_bad h3 _), fun _ => decide_eq_false (endR_bad h4 _)⟩
  · rw [rowR_none h1] at hq
    subst hq
    refine ⟨fun h => absurd h (coreR_nil _), fun _ => ?_⟩
    unfold entR
    dsimp only
    rw [rowR_none h2]
    exact decide_eq_false (coreR_nil _)
end Go.Proofs.Ytaggonhgafggkaa
namespace Go.Proofs.Ytaggonhgafggkaa
open Go.RowKit
set_option maxRecDepth 100000
theorem fill_et : ∃ pl, placesOf Try.prog 54 = some pl ∧ ∀ e : Et, FillF pl [(0, .agg e.core.cells.toArray), (1, .int .u32 e.mask)] zEt e.cells := ⟨_, rfl, fun e => .cons .agg rfl rfl (lay_mid [Value.int .u32 0] (zs := zCr) rfl) (.cons .int rfl rfl (by repeat constructor) .nil)⟩
theorem sat_pre {F : PH} {H X : List Asrt} {w : World} (s : Sat F (H ++ X) w) : Sat F H w := by
  obtain ⟨r, hr, hd, hl⟩ := s
  obtain ⟨a, b, ha, _, hab, rfl⟩ := Star.append.1 hr
  exact ⟨a, ha, hd.mono_r (PH.le_l _ _), (PH.un_le ((PH.le_l _ _).trans hl) (((PH.le_l _ _).trans (PH.le_r hd)).trans hl))⟩
def FormQ (r : Cr × Int × List UInt8) (u : Value) (_ : PH) (H' : List Asrt) : Prop := H' = [] ∧ u = .tuple #[.agg r.1.cells.toArray, .bool (decide (endR r.2.1 r.2.2 = 0))]
def BatQ (r : List Et × Int) (u : Value) (F' : PH) (H' : List Asrt) : Prop := H' = [] ∧ ∃ v, u = .tuple #[v, .int .i64 r.2] ∧ Ents F' v r.1
set_option maxHeartbeats 16000000 in
theorem formed_spec (v : Value) (bs : List UInt8) (F : PH) (h : Byt F v bs) (hl : bs.length ≤ 1048576) :
    Spec Try.prog 83 [v] F [] (FormQ (coreR bs.length bs)) := by
  obtain ⟨a, c, rfl, hc⟩ := h.form
  refine Spec.of1 Try.func83 rfl rfl fun X w0 => ?_
  refine jc rfl rfl ?_
  refine jr rfl ?_
  refine oE (ev_alloc (cs := zCr) rfl) rfl ?_
  rintro _ _ _ _ ⟨rfl, b4, rfl, rfl⟩
  repeat (first|refine zJ rfl rfl ?_|refine jr rfl ?_|refine jn ?_|refine zM rfl rfl ?_|(refine zC rfl rfl ?_ rfl ?_;omega)|(refine zD rfl rfl ?_ rfl ?_;omega)|(refine zP rfl ?_ rfl ?_;omega)|refine zG rfl rfl rfl rfl ?_|(refine jdq rfl rfl ?_ ?_ ?_;kernel_rfl;kernel_rfl)|refine zB rfl rfl rfl (by repeat constructor) rfl ?_|refine zH .here rfl rfl rfl rfl ?_|refine zH (.there .here) rfl rfl rfl rfl ?_|refine zH (.there (.there .here)) rfl rfl rfl rfl ?_)
  refine oC (Hc := []) (Hr := blk b4 52 zCr :: X) (read_spec _ bs F h (by omega)) Try.call47 rfl rfl (fun _ s => s) ?_
  rintro _ F0 _ hF0 ⟨br, v0, rfl, hv0, rfl⟩
  repeat (first|refine zJ rfl rfl ?_|refine jr rfl ?_|refine jn ?_|refine zM rfl rfl ?_|(refine zC rfl rfl ?_ rfl ?_;omega)|(refine zD rfl rfl ?_ rfl ?_;omega)|(refine zP rfl ?_ rfl ?_;omega)|refine zG rfl rfl rfl rfl ?_|(refine jdq rfl rfl ?_ ?_ ?_;kernel_rfl;kernel_rfl)|refine zB rfl rfl rfl (by repeat constructor) rfl ?_|refine zH .here rfl rfl rfl rfl ?_|refine zH (.there .here) rfl rfl rfl rfl ?_|refine zH (.there (.there .here)) rfl rfl rfl rfl ?_)
  refine oE (ev_alloc (cs := zCr) rfl) rfl ?_
  rintro _ _ _ _ ⟨rfl, b7, rfl, rfl⟩
  repeat (first|refine zJ rfl rfl ?_|refine jr rfl ?_|refine jn ?_|refine zM rfl rfl ?_|(refine zC rfl rfl ?_ rfl ?_;omega)|(refine zD rfl rfl ?_ rfl ?_;omega)|(refine zP rfl ?_ rfl ?_;omega)|refine zG rfl rfl rfl rfl ?_|(refine jdq rfl rfl ?_ ?_ ?_;kernel_rfl;kernel_rfl)|refine zB rfl rfl rfl (by repeat constructor) rfl ?_|refine zH .here rfl rfl rfl rfl ?_|refine zH (.there .here) rfl rfl rfl rfl ?_|refine zH (.there (.there .here)) rfl rfl rfl rfl ?_)
  refine oC (Hc := [rdr br v0 0]) (Hr := blk b7 52 [.int .i64 0, .int .i64 0, .int .i64 0, .string (strOf []), .int .i64 0, .int .i64 0, .string (strOf [])] :: blk b4 52 zCr :: X) (number_spec br v0 0 1 bs F0 hv0 (by omega)) Try.call73 rfl rfl (fun _ s => s.pick (.there .here)) ?_
  rintro _ F1 _ hF1 ⟨v1, rfl, hv1, rfl⟩
  have n1 := numR_rest 0 bs 1
  generalize hr1 : numR 0 bs 1 = r1 at *
  repeat (first|refine zJ rfl rfl ?_|refine jr rfl ?_|refine jn ?_|refine zM rfl rfl ?_|(refine zC rfl rfl ?_ rfl ?_;omega)|(refine zD rfl rfl ?_ rfl ?_;omega)|(refine zP rfl ?_ rfl ?_;omega)|refine zG rfl rfl rfl rfl ?_|(refine jdq rfl rfl ?_ ?_ ?_;kernel_rfl;kernel_rfl)|refine zB rfl rfl rfl (by repeat constructor) rfl ?_|refine zH .here rfl rfl rfl rfl ?_|refine zH (.there .here) rfl rfl rfl rfl ?_|refine zH (.there (.there .here)) rfl rfl rfl rfl ?_)
  refine oS (ev_conv rfl rfl rfl (iN_wrap _)) rfl ?_
  repeat (first|refine zJ rfl rfl ?_|refine jr rfl ?_|refine jn ?_|refine zM rfl rfl ?_|(refine zC rfl rfl ?_ rfl ?_;omega)|(refine zD rfl rfl ?_ rfl ?_;omega)|(refine zP rfl ?_ rfl ?_;omega)|refine zG rfl rfl rfl rfl ?_|(refine jdq rfl rfl ?_ ?_ ?_;kernel_rfl;kernel_rfl)|refine zB rfl rfl rfl (by repeat constructor) rfl ?_|refine zH .here rfl rfl rfl rfl ?_|refine zH (.there .here) rfl rfl rfl rfl ?_|refine zH (.there (.there .here)) rfl rfl rfl rfl ?_)
  refine oC (Hc := [rdr br v1 r1.2.1]) (Hr := blk b7 52 [.int .i64 0, .int .i64 0, .int .i64 0, .string (strOf []), .int .i64 0, .int .i64 0, .string (strOf [])] :: blk b4 52 zCr :: X) (number_spec br v1 r1.2.1 8 r1.2.2 F1 hv1 (by omega)) Try.call73 rfl rfl (fun _ s => s) ?_
  rintro _ F2 _ hF2 ⟨v2, rfl, hv2, rfl⟩
  have n2 := numR_rest r1.2.1 r1.2.2 8
  generalize hr2 : numR r1.2.1 r1.2.2 8 = r2 at *
  repeat (first|refine zJ rfl rfl ?_|refine jr rfl ?_|refine jn ?_|refine zM rfl rfl ?_|(refine zC rfl rfl ?_ rfl ?_;omega)|(refine zD rfl rfl ?_ rfl ?_;omega)|(refine zP rfl ?_ rfl ?_;omega)|refine zG rfl rfl rfl rfl ?_|(refine jdq rfl rfl ?_ ?_ ?_;kernel_rfl;kernel_rfl)|refine zB rfl rfl rfl (by repeat constructor) rfl ?_|refine zH .here rfl rfl rfl rfl ?_|refine zH (.there .here) rfl rfl rfl rfl ?_|refine zH (.there (.there .here)) rfl rfl rfl rfl ?_)
  refine oS (ev_conv rfl rfl rfl (iN_wrap _)) rfl ?_
  repeat (first|refine zJ rfl rfl ?_|refine jr rfl ?_|refine jn ?_|refine zM rfl rfl ?_|(refine zC rfl rfl ?_ rfl ?_;omega)|(refine zD rfl rfl ?_ rfl ?_;omega)|(refine zP rfl ?_ rfl ?_;omega)|refine zG rfl rfl rfl rfl ?_|(refine jdq rfl rfl ?_ ?_ ?_;kernel_rfl;kernel_rfl)|refine zB rfl rfl rfl (by repeat constructor) rfl ?_|refine zH .here rfl rfl rfl rfl ?_|refine zH (.there .here) rfl rfl rfl rfl ?_|refine zH (.there (.there .here)) rfl rfl rfl rfl ?_)
  refine oC (Hc := [rdr br v2 r2.2.1]) (Hr := blk b7 52 [.int .i64 0, .int .i64 0, .int .i64 0, .string (strOf []), .int .i64 0, .int .i64 0, .string (strOf [])] :: blk b4 52 zCr :: X) (number_spec br v2 r2.2.1 1 r2.2.2 F2 hv2 (by omega)) Try.call73 rfl rfl (fun _ s => s) ?_
  rintro _ F3 _ hF3 ⟨v3, rfl, hv3, rfl⟩
  have n3 := numR_rest r2.2.1 r2.2.2 1
  generalize hr3 : numR r2.2.1 r2.2.2 1 = r3 at *
  repeat (first|refine zJ rfl rfl ?_|refine jr rfl ?_|refine jn ?_|refine zM rfl rfl ?_|(refine zC rfl rfl ?_ rfl ?_;omega)|(refine zD rfl rfl ?_ rfl ?_;omega)|(refine zP rfl ?_ rfl ?_;omega)|refine zG rfl rfl rfl rfl ?_|(refine jdq rfl rfl ?_ ?_ ?_;kernel_rfl;kernel_rfl)|refine zB rfl rfl rfl (by repeat constructor) rfl ?_|refine zH .here rfl rfl rfl rfl ?_|refine zH (.there .here) rfl rfl rfl rfl ?_|refine zH (.there (.there .here)) rfl rfl rfl rfl ?_)
  refine oS (ev_conv rfl rfl rfl (iN_wrap _)) rfl ?_
  repeat (first|refine zJ rfl rfl ?_|refine jr rfl ?_|refine jn ?_|refine zM rfl rfl ?_|(refine zC rfl rfl ?_ rfl ?_;omega)|(refine zD rfl rfl ?_ rfl ?_;omega)|(refine zP rfl ?_ rfl ?_;omega)|refine zG rfl rfl rfl rfl ?_|(refine jdq rfl rfl ?_ ?_ ?_;kernel_rfl;kernel_rfl)|refine zB rfl rfl rfl (by repeat constructor) rfl ?_|refine zH .here rfl rfl rfl rfl ?_|refine zH (.there .here) rfl rfl rfl rfl ?_|refine zH (.there (.there .here)) rfl rfl rfl rfl ?_)
  refine oN (ev_store (b := b7) rfl rfl .int rfl rfl (by repeat constructor) (ones_cons rfl ones_nil) (.there .here)) rfl ?_
  rintro _ _ _ _ ⟨rfl, _, rfl⟩
  repeat (first|refine zJ rfl rfl ?_|refine jr rfl ?_|refine jn ?_|refine zM rfl rfl ?_|(refine zC rfl rfl ?_ rfl ?_;omega)|(refine zD rfl rfl ?_ rfl ?_;omega)|(refine zP rfl ?_ rfl ?_;omega)|refine zG rfl rfl rfl rfl ?_|(refine jdq rfl rfl ?_ ?_ ?_;kernel_rfl;kernel_rfl)|refine zB rfl rfl rfl (by repeat constructor) rfl ?_|refine zH .here rfl rfl rfl rfl ?_|refine zH (.there .here) rfl rfl rfl rfl ?_|refine zH (.there (.there .here)) rfl rfl rfl rfl ?_)
  refine oN (ev_store (b := b7) rfl rfl .int rfl rfl (by repeat constructor) (ones_cons rfl ones_nil) (.there .here)) rfl ?_
  rintro _ _ _ _ ⟨rfl, _, rfl⟩
  repeat (first|refine zJ rfl rfl ?_|refine jr rfl ?_|refine jn ?_|refine zM rfl rfl ?_|(refine zC rfl rfl ?_ rfl ?_;omega)|(refine zD rfl rfl ?_ rfl ?_;omega)|(refine zP rfl ?_ rfl ?_;omega)|refine zG rfl rfl rfl rfl ?_|(refine jdq rfl rfl ?_ ?_ ?_;kernel_rfl;kernel_rfl)|refine zB rfl rfl rfl (by repeat constructor) rfl ?_|refine zH .here rfl rfl rfl rfl ?_|refine zH (.there .here) rfl rfl rfl rfl ?_|refine zH (.there (.there .here)) rfl rfl rfl rfl ?_)
  refine oN (ev_store (b := b7) rfl rfl .int rfl rfl (by repeat constructor) (ones_cons rfl ones_nil) (.there .here)) rfl ?_
  rintro _ _ _ _ ⟨rfl, _, rfl⟩
  repeat (first|refine zJ rfl rfl ?_|refine jr rfl ?_|refine jn ?_|refine zM rfl rfl ?_|(refine zC rfl rfl ?_ rfl ?_;omega)|(refine zD rfl rfl ?_ rfl ?_;omega)|(refine zP rfl ?_ rfl ?_;omega)|refine zG rfl rfl rfl rfl ?_|(refine jdq rfl rfl ?_ ?_ ?_;kernel_rfl;kernel_rfl)|refine zB rfl rfl rfl (by repeat constructor) rfl ?_|refine zH .here rfl rfl rfl rfl ?_|refine zH (.there .here) rfl rfl rfl rfl ?_|refine zH (.there (.there .here)) rfl rfl rfl rfl ?_)
  refine oC (Hc := [rdr br v3 r3.2.1]) (Hr := blk b7 52 [.int .i64 (iN r1.1), .int .i64 (iN r2.1), .int .i64 (iN r3.1), .string (strOf []), .int .i64 0, .int .i64 0, .string (strOf [])] :: blk b4 52 zCr :: X) (rrow_spec br v3 r3.2.1 bs.length r3.2.2 F3 hv3 (by omega)) Try.call64 rfl rfl (fun _ s => s) ?_
  rintro u4 F4 _ hF4 ⟨v4, hu4, hv4, rfl⟩
  have n4 := rowR_rest' r3.2.1 r3.2.2 bs.length
  generalize hr4 : rowR r3.2.1 r3.2.2 bs.length = r4 at *
  obtain ⟨a4, c4, rfl, hc4⟩ := hu4.form
  repeat (first|refine zJ rfl rfl ?_|refine jr rfl ?_|refine jn ?_|refine zM rfl rfl ?_|(refine zC rfl rfl ?_ rfl ?_;omega)|(refine zD rfl rfl ?_ rfl ?_;omega)|(refine zP rfl ?_ rfl ?_;omega)|refine zG rfl rfl rfl rfl ?_|(refine jdq rfl rfl ?_ ?_ ?_;kernel_rfl;kernel_rfl)|refine zB rfl rfl rfl (by repeat constructor) rfl ?_|refine zH .here rfl rfl rfl rfl ?_|refine zH (.there .here) rfl rfl rfl rfl ?_|refine zH (.there (.there .here)) rfl rfl rfl rfl ?_)
  refine oS (eb_string rfl (hu4.rds)) rfl ?_
  repeat (first|refine zJ rfl rfl ?_|refine jr rfl ?_|refine jn ?_|refine zM rfl rfl ?_|(refine zC rfl rfl ?_ rfl ?_;omega)|(refine zD rfl rfl ?_ rfl ?_;omega)|(refine zP rfl ?_ rfl ?_;omega)|refine zG rfl rfl rfl rfl ?_|(refine jdq rfl rfl ?_ ?_ ?_;kernel_rfl;kernel_rfl)|refine zB rfl rfl rfl (by repeat constructor) rfl ?_|refine zH .here rfl rfl rfl rfl ?_|refine zH (.there .here) rfl rfl rfl rfl ?_|refine zH (.there (.there .here)) rfl rfl rfl rfl ?_)
  refine oN (ev_store (b := b7) rfl rfl .string rfl rfl (by repeat constructor) (ones_cons rfl ones_nil) (.there .here)) rfl ?_
  rintro _ _ _ _ ⟨rfl, _, rfl⟩
  repeat (first|refine zJ rfl rfl ?_|refine jr rfl ?_|refine jn ?_|refine zM rfl rfl ?_|(refine zC rfl rfl ?_ rfl ?_;omega)|(refine zD rfl rfl ?_ rfl ?_;omega)|(refine zP rfl ?_ rfl ?_;omega)|refine zG rfl rfl rfl rfl ?_|(refine jdq rfl rfl ?_ ?_ ?_;kernel_rfl;kernel_rfl)|refine zB rfl rfl rfl (by repeat constructor) rfl ?_|refine zH .here rfl rfl rfl rfl ?_|refine zH (.there .here) rfl rfl rfl rfl ?_|refine zH (.there (.there .here)) rfl rfl rfl rfl ?_)
  refine oC (Hc := [rdr br v4 r4.2.1]) (Hr := blk b7 52 [.int .i64 (iN r1.1), .int .i64 (iN r2.1), .int .i64 (iN r3.1), .string (strOf r4.1), .int .i64 0, .int .i64 0, .string (strOf [])] :: blk b4 52 zCr :: X) (number_spec br v4 r4.2.1 8 r4.2.2 F4 hv4 (by omega)) Try.call73 rfl rfl (fun _ s => s) ?_
  rintro _ F5 _ hF5 ⟨v5, rfl, hv5, rfl⟩
  have n5 := numR_rest r4.2.1 r4.2.2 8
  generalize hr5 : numR r4.2.1 r4.2.2 8 = r5 at *
  repeat (first|refine zJ rfl rfl ?_|refine jr rfl ?_|refine jn ?_|refine zM rfl rfl ?_|(refine zC rfl rfl ?_ rfl ?_;omega)|(refine zD rfl rfl ?_ rfl ?_;omega)|(refine zP rfl ?_ rfl ?_;omega)|refine zG rfl rfl rfl rfl ?_|(refine jdq rfl rfl ?_ ?_ ?_;kernel_rfl;kernel_rfl)|refine zB rfl rfl rfl (by repeat constructor) rfl ?_|refine zH .here rfl rfl rfl rfl ?_|refine zH (.there .here) rfl rfl rfl rfl ?_|refine zH (.there (.there .here)) rfl rfl rfl rfl ?_)
  refine oS (ev_conv rfl rfl rfl (iN_wrap _)) rfl ?_
  repeat (first|refine zJ rfl rfl ?_|refine jr rfl ?_|refine jn ?_|refine zM rfl rfl ?_|(refine zC rfl rfl ?_ rfl ?_;omega)|(refine zD rfl rfl ?_ rfl ?_;omega)|(refine zP rfl ?_ rfl ?_;omega)|refine zG rfl rfl rfl rfl ?_|(refine jdq rfl rfl ?_ ?_ ?_;kernel_rfl;kernel_rfl)|refine zB rfl rfl rfl (by repeat constructor) rfl ?_|refine zH .here rfl rfl rfl rfl ?_|refine zH (.there .here) rfl rfl rfl rfl ?_|refine zH (.there (.there .here)) rfl rfl rfl rfl ?_)
  refine oC (Hc := [rdr br v5 r5.2.1]) (Hr := blk b7 52 [.int .i64 (iN r1.1), .int .i64 (iN r2.1), .int .i64 (iN r3.1), .string (strOf r4.1), .int .i64 0, .int .i64 0, .string (strOf [])] :: blk b4 52 zCr :: X) (number_spec br v5 r5.2.1 8 r5.2.2 F5 hv5 (by omega)) Try.call73 rfl rfl (fun _ s => s) ?_
  rintro _ F6 _ hF6 ⟨v6, rfl, hv6, rfl⟩
  have n6 := numR_rest r5.2.1 r5.2.2 8
  generalize hr6 : numR r5.2.1 r5.2.2 8 = r6 at *
  repeat (first|refine zJ rfl rfl ?_|refine jr rfl ?_|refine jn ?_|refine zM rfl rfl ?_|(refine zC rfl rfl ?_ rfl ?_;omega)|(refine zD rfl rfl ?_ rfl ?_;omega)|(refine zP rfl ?_ rfl ?_;omega)|refine zG rfl rfl rfl rfl ?_|(refine jdq rfl rfl ?_ ?_ ?_;kernel_rfl;kernel_rfl)|refine zB rfl rfl rfl (by repeat constructor) rfl ?_|refine zH .here rfl rfl rfl rfl ?_|refine zH (.there .here) rfl rfl rfl rfl ?_|refine zH (.there (.there .here)) rfl rfl rfl rfl ?_)
  refine oS (ev_conv rfl rfl rfl (iN_wrap _)) rfl ?_
  repeat (first|refine zJ rfl rfl ?_|refine jr rfl ?_|refine jn ?_|refine zM rfl rfl ?_|(refine zC rfl rfl ?_ rfl ?_;omega)|(refine zD rfl rfl ?_ rfl ?_;omega)|(refine zP rfl ?_ rfl ?_;omega)|refine zG rfl rfl rfl rfl ?_|(refine jdq rfl rfl ?_ ?_ ?_;kernel_rfl;kernel_rfl)|refine zB rfl rfl rfl (by repeat constructor) rfl ?_|refine zH .here rfl rfl rfl rfl ?_|refine zH (.there .here) rfl rfl rfl rfl ?_|refine zH (.there (.there .here)) rfl rfl rfl rfl ?_)
  refine oN (ev_store (b := b7) rfl rfl .int rfl rfl (by repeat constructor) (ones_cons rfl ones_nil) (.there .here)) rfl ?_
  rintro _ _ _ _ ⟨rfl, _, rfl⟩
  repeat (first|refine zJ rfl rfl ?_|refine jr rfl ?_|refine jn ?_|refine zM rfl rfl ?_|(refine zC rfl rfl ?_ rfl ?_;omega)|(refine zD rfl rfl ?_ rfl ?_;omega)|(refine zP rfl ?_ rfl ?_;omega)|refine zG rfl rfl rfl rfl ?_|(refine jdq rfl rfl ?_ ?_ ?_;kernel_rfl;kernel_rfl)|refine zB rfl rfl rfl (by repeat constructor) rfl ?_|refine zH .here rfl rfl rfl rfl ?_|refine zH (.there .here) rfl rfl rfl rfl ?_|refine zH (.there (.there .here)) rfl rfl rfl rfl ?_)
  refine oN (ev_store (b := b7) rfl rfl .int rfl rfl (by repeat constructor) (ones_cons rfl ones_nil) (.there .here)) rfl ?_
  rintro _ _ _ _ ⟨rfl, _, rfl⟩
  repeat (first|refine zJ rfl rfl ?_|refine jr rfl ?_|refine jn ?_|refine zM rfl rfl ?_|(refine zC rfl rfl ?_ rfl ?_;omega)|(refine zD rfl rfl ?_ rfl ?_;omega)|(refine zP rfl ?_ rfl ?_;omega)|refine zG rfl rfl rfl rfl ?_|(refine jdq rfl rfl ?_ ?_ ?_;kernel_rfl;kernel_rfl)|refine zB rfl rfl rfl (by repeat constructor) rfl ?_|refine zH .here rfl rfl rfl rfl ?_|refine zH (.there .here) rfl rfl rfl rfl ?_|refine zH (.there (.there .here)) rfl rfl rfl rfl ?_)
  refine oC (Hc := [rdr br v6 r6.2.1]) (Hr := blk b7 52 [.int .i64 (iN r1.1), .int .i64 (iN r2.1), .int .i64 (iN r3.1), .string (strOf r4.1), .int .i64 (iN r5.1), .int .i64 (iN r6.1), .string (strOf [])] :: blk b4 52 zCr :: X) (rrow_spec br v6 r6.2.1 bs.length r6.2.2 F6 hv6 (by omega)) Try.call64 rfl rfl (fun _ s => s) ?_
  rintro u7 F7 _ hF7 ⟨v7, hu7, hv7, rfl⟩
  have n7 := rowR_rest' r6.2.1 r6.2.2 bs.length
  generalize hr7 : rowR r6.2.1 r6.2.2 bs.length = r7 at *
  obtain ⟨a7, c7, rfl, hc7⟩ := hu7.form
  repeat (first|refine zJ rfl rfl ?_|refine jr rfl ?_|refine jn ?_|refine zM rfl rfl ?_|(refine zC rfl rfl ?_ rfl ?_;omega)|(refine zD rfl rfl ?_ rfl ?_;omega)|(refine zP rfl ?_ rfl ?_;omega)|refine zG rfl rfl rfl rfl ?_|(refine jdq rfl rfl ?_ ?_ ?_;kernel_rfl;kernel_rfl)|refine zB rfl rfl rfl (by repeat constructor) rfl ?_|refine zH .here rfl rfl rfl rfl ?_|refine zH (.there .here) rfl rfl rfl rfl ?_|refine zH (.there (.there .here)) rfl rfl rfl rfl ?_)
  refine oS (eb_string rfl (hu7.rds)) rfl ?_
  repeat (first|refine zJ rfl rfl ?_|refine jr rfl ?_|refine jn ?_|refine zM rfl rfl ?_|(refine zC rfl rfl ?_ rfl ?_;omega)|(refine zD rfl rfl ?_ rfl ?_;omega)|(refine zP rfl ?_ rfl ?_;omega)|refine zG rfl rfl rfl rfl ?_|(refine jdq rfl rfl ?_ ?_ ?_;kernel_rfl;kernel_rfl)|refine zB rfl rfl rfl (by repeat constructor) rfl ?_|refine zH .here rfl rfl rfl rfl ?_|refine zH (.there .here) rfl rfl rfl rfl ?_|refine zH (.there (.there .here)) rfl rfl rfl rfl ?_)
  refine oN (ev_store (b := b7) rfl rfl .string rfl rfl (by repeat constructor) (ones_cons rfl ones_nil) (.there .here)) rfl ?_
  rintro _ _ _ _ ⟨rfl, _, rfl⟩
  repeat (first|refine zJ rfl rfl ?_|refine jr rfl ?_|refine jn ?_|refine zM rfl rfl ?_|(refine zC rfl rfl ?_ rfl ?_;omega)|(refine zD rfl rfl ?_ rfl ?_;omega)|(refine zP rfl ?_ rfl ?_;omega)|refine zG rfl rfl rfl rfl ?_|(refine jdq rfl rfl ?_ ?_ ?_;kernel_rfl;kernel_rfl)|refine zB rfl rfl rfl (by repeat constructor) rfl ?_|refine zH .here rfl rfl rfl rfl ?_|refine zH (.there .here) rfl rfl rfl rfl ?_|refine zH (.there (.there .here)) rfl rfl rfl rfl ?_)
  have hh : coreR bs.length bs = (⟨iN r1.1, iN r2.1, iN r3.1, r4.1, iN r5.1, iN r6.1, r7.1⟩, r7.2) := by
    unfold coreR; dsimp only; rw [hr1, hr2, hr3, hr4, hr5, hr6, hr7]
  rw [hh]
  have hFF := hF0.trans (hF1.trans (hF2.trans (hF3.trans (hF4.trans (hF5.trans (hF6.trans hF7))))))
  generalize hcr : (⟨iN r1.1, iN r2.1, iN r3.1, r4.1, iN r5.1, iN r6.1, r7.1⟩ : Cr) = cr
  have hcc : [.int .i64 (iN r1.1), .int .i64 (iN r2.1), .int .i64 (iN r3.1), .string (strOf r4.1), .int .i64 (iN r5.1), .int .i64 (iN r6.1), .string (strOf r7.1)] = cr.cells := by rw [← hcr]; rfl
  rw [hcc]
  refine ja F7 (rdr br v7 r7.2.1 :: blk b7 52  cr.cells :: []) ?_ ?_ ?_; kernel_rfl
  · exact fun w s => by
      obtain ⟨r, hr, hd, hl⟩ := s
      exact sat_pre (H := [rdr br v7 r7.2.1, blk b7 52 cr.cells]) (X := blk b4 52 zCr :: X) ⟨r, hr, hd, hl⟩
  refine aT 0 rfl (ev_load_agg (cs := cr.cells) rfl rfl (Rdb.ofB (n := 0) (.there .here) rfl) cr.len) rfl rfl ?_ ?_ ?_ ?_; kernel_rfl; kernel_rfl; kernel_rfl
  refine aT 1 rfl (ev_pv rfl) rfl rfl ?_ ?_ ?_ ?_; kernel_rfl; kernel_rfl; kernel_rfl
  refine aB (i := 2) (by kernel_rfl) (aC (Hc := [rdr br v7 r7.2.1]) (Hr := blk b7 52  cr.cells :: blk b4 52 zCr :: X) rfl (end_spec br v7 r7.2.1 r7.2.2 F7 hv7) Try.call50 rfl rfl rfl (fun _ s => s) (fun _ _ _ hF hq w s => by obtain ⟨rfl, _, rfl⟩ := hq; exact sat_pre (H := [rdr br v7 r7.2.1, blk b7 52 cr.cells]) s) ?_)
  rintro _ _ _ _ ⟨rfl, rfl, rfl⟩
  refine aT 3 rfl (eg rfl rfl rfl) rfl rfl ?_ ?_ ?_ ?_; kernel_rfl; kernel_rfl; kernel_rfl
  refine aB (i := 4) (by kernel_rfl) (aN rfl (ev_store (b := b4) rfl rfl .agg rfl cr.len (lay_all (zs := zCr) cr.len) cr.ones (.there (.there .here))) rfl (fun _ _ _ _ hq w s => by obtain ⟨rfl, _, rfl⟩ := hq; exact sat_pre (H := [rdr br v7 r7.2.1, blk b7 52 cr.cells]) (X := blk b4 52 cr.cells :: X) s) ?_)
  rintro _ _ _ _ ⟨rfl, _, rfl⟩
  refine aT 5 rfl (ev_pv rfl) rfl rfl ?_ ?_ ?_ ?_; kernel_rfl; kernel_rfl; kernel_rfl
  refine aD (by kernel_rfl) ?_
  repeat (first|refine zJ rfl rfl ?_|refine jr rfl ?_|refine jn ?_|refine zM rfl rfl ?_|(refine zC rfl rfl ?_ rfl ?_;omega)|(refine zD rfl rfl ?_ rfl ?_;omega)|(refine zP rfl ?_ rfl ?_;omega)|refine zG rfl rfl rfl rfl ?_|(refine jdq rfl rfl ?_ ?_ ?_;kernel_rfl;kernel_rfl)|refine zB rfl rfl rfl (by repeat constructor) rfl ?_|refine zH .here rfl rfl rfl rfl ?_|refine zH (.there .here) rfl rfl rfl rfl ?_|refine zH (.there (.there .here)) rfl rfl rfl rfl ?_)
  exact J_retv (vs := [.agg cr.cells.toArray, .bool (decide (endR r7.2.1 r7.2.2 = 0))]) rfl (.agg rfl rfl (Rdb.ofB (n := 0) (.there (.there .here)) rfl) cr.len (.tmp rfl .nil)) [] (fun w s => s.drop.drop.drop) hFF ⟨rfl, rfl⟩
set_option maxHeartbeats 32000000 in
theorem bparse_spec (v : Value) (bs : List UInt8) (n : Int) (F : PH) (h : Byt F v bs) (hl : bs.length ≤ 1048576) :
    Spec Try.prog 63 [v, .int .i64 n] F [] (BatQ (batchP bs n)) := by
  obtain ⟨a, c, rfl, hc⟩ := h.form
  obtain ⟨pl, hpl, hfill⟩ := fill_et
  refine Spec.of2 Try.func63 rfl rfl fun X w0 => ?_
  repeat (first|refine zJ rfl rfl ?_|refine jr rfl ?_|refine jn ?_|refine zM rfl rfl ?_|(refine zC rfl rfl ?_ rfl ?_;omega)|(refine zD rfl rfl ?_ rfl ?_;omega)|(refine zP rfl ?_ rfl ?_;omega)|refine zG rfl rfl rfl rfl ?_|(refine jdq rfl rfl ?_ ?_ ?_;kernel_rfl;kernel_rfl)|refine zB rfl rfl rfl (by repeat constructor) rfl ?_|refine zH .here rfl rfl rfl rfl ?_|refine zH (.there .here) rfl rfl rfl rfl ?_|refine zH (.there (.there .here)) rfl rfl rfl rfl ?_)
  refine oC (Hc := []) (Hr := X) (read_spec _ bs F h (by omega)) Try.call47 rfl rfl (fun _ s => s) ?_
  rintro _ F0 _ hF0 ⟨br, v0, rfl, hv0, rfl⟩
  repeat (first|refine zJ rfl rfl ?_|refine jr rfl ?_|refine jn ?_|refine zM rfl rfl ?_|(refine zC rfl rfl ?_ rfl ?_;omega)|(refine zD rfl rfl ?_ rfl ?_;omega)|(refine zP rfl ?_ rfl ?_;omega)|refine zG rfl rfl rfl rfl ?_|(refine jdq rfl rfl ?_ ?_ ?_;kernel_rfl;kernel_rfl)|refine zB rfl rfl rfl (by repeat constructor) rfl ?_|refine zH .here rfl rfl rfl rfl ?_|refine zH (.there .here) rfl rfl rfl rfl ?_|refine zH (.there (.there .here)) rfl rfl rfl rfl ?_)
  refine oC (Hc := [rdr br v0 0]) (Hr := X) (number_spec br v0 0 2 bs F0 hv0 (by omega)) Try.call73 rfl rfl (fun _ s => s) ?_
  rintro _ F1 _ hF1 ⟨v1, rfl, hv1, rfl⟩
  have n1 := numR_rest 0 bs 2
  have m1 := numR_lt 0 bs 2
  have hb : batR bs = entsR bs.length (numR 0 bs 2).2.1 (numR 0 bs 2).2.2 (numR 0 bs 2).1 := rfl
  generalize hr1 : numR 0 bs 2 = r1 at *
  replace m1 : r1.1 < 65536 := m1
  repeat (first|refine zJ rfl rfl ?_|refine jr rfl ?_|refine jn ?_|refine zM rfl rfl ?_|(refine zC rfl rfl ?_ rfl ?_;omega)|(refine zD rfl rfl ?_ rfl ?_;omega)|(refine zP rfl ?_ rfl ?_;omega)|refine zG rfl rfl rfl rfl ?_|(refine jdq rfl rfl ?_ ?_ ?_;kernel_rfl;kernel_rfl)|refine zB rfl rfl rfl (by repeat constructor) rfl ?_|refine zH .here rfl rfl rfl rfl ?_|refine zH (.there .here) rfl rfl rfl rfl ?_|refine zH (.there (.there .here)) rfl rfl rfl rfl ?_)
  obtain ⟨K, hK⟩ : ∃ K : Nat, K = min r1.1 (bs.length + 1) := ⟨_, rfl⟩
  have hKi : min (r1.1 : Int) ((bs.length : Int) + 1) = (K : Int) := by omega
  rw [hKi]
  have hK1 : K ≤ r1.1 := by omega
  have hK2 : K < 65536 := by omega
  refine J_own_nil 54 8 ?_
  refine J_loop3 (fun (j : Nat) (t : Value × Value) (G : PH) => j ≤ K ∧ F1.le G ∧ Byt G t.1 (entsR bs.length r1.2.1 r1.2.2 j).2.2.2 ∧ (entsR bs.length r1.2.1 r1.2.2 j).1 = true) (fun j _ _ => K - j)
    (fun j t _ => [(0, .slice a bs.length c), (1, .int .i64 n), (6, .pointer (some ⟨br, 0, none⟩)), (7, t.2), (19, .int .i64 K), (20, .int .i64 j)]) (fun _ _ G => G)
    (fun j t _ => rdr br t.1 (entsR bs.length r1.2.1 r1.2.2 j).2.2.1 :: own t.2 54 8 j (etCs (entsR bs.length r1.2.1 r1.2.2 j).2.1) :: X)
    0 (v1, .slice none 0 0) F1 ⟨Nat.zero_le _, PH.ler _, hv1, rfl⟩ ⟨⟨rfl, rfl, rfl, rfl, rfl, rfl, trivial⟩, fun w s => s.unpick (.there .here)⟩ ?_
  rintro j ⟨v, vo⟩ G ⟨hj, hG, hv, hok⟩
  dsimp only at hv ⊢
  have hrest := entsR_rest bs.length r1.2.1 r1.2.2 j
  by_cases hlt : j < K
  · have hsn := entsR_succ bs.length r1.2.1 r1.2.2 j
    have hstop := entsR_stop (m := bs.length) (e := r1.2.1) (bs := r1.2.2) (j := j) (k := r1.1) (by omega)
    have hfine := entR_fine (m := bs.length) (e := (entsR bs.length r1.2.1 r1.2.2 j).2.2.1) (bs := (entsR bs.length r1.2.1 r1.2.2 j).2.2.2) (by omega)
    rw [hok, Bool.true_and] at hsn
    generalize hs : entsR bs.length r1.2.1 r1.2.2 j = s at *
    obtain ⟨_, es, e, rs⟩ := s
    dsimp only at *
    have hel : es.length = j := by have := entsR_len bs.length r1.2.1 r1.2.2 j; rw [hs] at this; exact this
    have hun : entR bs.length e rs = (⟨(coreR (rowR e rs bs.length).1.length (rowR e rs bs.length).1).1, (numR (rowR e rs bs.length).2.1 (rowR e rs bs.length).2.2 1).1⟩, decide (endR (coreR (rowR e rs bs.length).1.length (rowR e rs bs.length).1).2.1 (coreR (rowR e rs bs.length).1.length (rowR e rs bs.length).1).2.2 = 0), (numR (rowR e rs bs.length).2.1 (rowR e rs bs.length).2.2 1).2) := rfl
    rw [hun] at hsn hstop hfine
    clear hun
    dsimp only at hsn hstop hfine
    repeat (first|refine zJ rfl rfl ?_|refine jr rfl ?_|refine jn ?_|refine zM rfl rfl ?_|(refine zC rfl rfl ?_ rfl ?_;omega)|(refine zD rfl rfl ?_ rfl ?_;omega)|(refine zP rfl ?_ rfl ?_;omega)|refine zG rfl rfl rfl rfl ?_|(refine jdq rfl rfl ?_ ?_ ?_;kernel_rfl;kernel_rfl)|refine zB rfl rfl rfl (by repeat constructor) rfl ?_|refine zH .here rfl rfl rfl rfl ?_|refine zH (.there .here) rfl rfl rfl rfl ?_|refine zH (.there (.there .here)) rfl rfl rfl rfl ?_)
    refine oC (Hc := [rdr br v e]) (Hr := own vo 54 8 j (etCs es) :: X) (rrow_spec br v e bs.length rs G hv (by omega)) Try.call64 rfl rfl (fun _ s => s) ?_
    rintro u2 F2 _ hF2 ⟨v2, hu2, hv2, rfl⟩
    have n2 := rowR_rest' e rs bs.length
    have l2 := rowR_short e rs bs.length
    generalize hr2 : rowR e rs bs.length = r2 at *
    obtain ⟨a2, c2, rfl, hc2⟩ := hu2.form
    refine oC (Hc := []) (Hr := rdr br v2 r2.2.1 :: own vo 54 8 j (etCs es) :: X) (formed_spec _ r2.1 F2 hu2 (by omega)) Try.call83 rfl rfl (fun _ s => s) ?_
    rintro _ F3 _ hF3 ⟨rfl, rfl⟩
    generalize hq3 : coreR r2.1.length r2.1 = q3 at *
    repeat (first|refine zJ rfl rfl ?_|refine jr rfl ?_|refine jn ?_|refine zM rfl rfl ?_|(refine zC rfl rfl ?_ rfl ?_;omega)|(refine zD rfl rfl ?_ rfl ?_;omega)|(refine zP rfl ?_ rfl ?_;omega)|refine zG rfl rfl rfl rfl ?_|(refine jdq rfl rfl ?_ ?_ ?_;kernel_rfl;kernel_rfl)|refine zB rfl rfl rfl (by repeat constructor) rfl ?_|refine zH .here rfl rfl rfl rfl ?_|refine zH (.there .here) rfl rfl rfl rfl ?_|refine zH (.there (.there .here)) rfl rfl rfl rfl ?_)
    refine oE (ev_alloc (cs := zCr) rfl) rfl ?_
    rintro _ _ _ _ ⟨rfl, b8, rfl, rfl⟩
    refine oN (ev_store (b := b8) rfl rfl .agg rfl rfl (lay_all (zs := zCr) rfl) q3.1.ones .here) rfl ?_
    rintro _ _ _ _ ⟨rfl, _, rfl⟩
    by_cases he : endR q3.2.1 q3.2.2 = 0
    · have n4 := numR_rest r2.2.1 r2.2.2 1
      have m4 := numR_lt r2.2.1 r2.2.2 1
      rw [decide_eq_true he] at hsn ⊢
      repeat (first|refine zJ rfl rfl ?_|refine jr rfl ?_|refine jn ?_|refine zM rfl rfl ?_|(refine zC rfl rfl ?_ rfl ?_;omega)|(refine zD rfl rfl ?_ rfl ?_;omega)|(refine zP rfl ?_ rfl ?_;omega)|refine zG rfl rfl rfl rfl ?_|(refine jdq rfl rfl ?_ ?_ ?_;kernel_rfl;kernel_rfl)|refine zB rfl rfl rfl (by repeat constructor) rfl ?_|refine zH .here rfl rfl rfl rfl ?_|refine zH (.there .here) rfl rfl rfl rfl ?_|refine zH (.there (.there .here)) rfl rfl rfl rfl ?_)
      refine ja F3 [blk b8 52 q3.1.cells] ?_ ?_ ?_; kernel_rfl
      · exact fun w s => sat_pre (H := [blk b8 52 q3.1.cells]) s
      refine aT 0 rfl (ev_pv rfl) rfl rfl ?_ ?_ ?_ ?_; kernel_rfl; kernel_rfl; kernel_rfl
      refine aT 1 rfl (ev_load_agg (cs := q3.1.cells) rfl rfl (Rdb.ofB (n := 0) .here rfl) rfl) rfl rfl ?_ ?_ ?_ ?_; kernel_rfl; kernel_rfl; kernel_rfl
      refine aT 2 rfl (ev_pv rfl) rfl rfl ?_ ?_ ?_ ?_; kernel_rfl; kernel_rfl; kernel_rfl
      refine aB (i := 3) (by kernel_rfl) (aC (Hc := [rdr br v2 r2.2.1]) (Hr := blk b8 52 q3.1.cells :: own vo 54 8 j (etCs es) :: X) rfl (number_spec br v2 r2.2.1 1 r2.2.2 F3 (hv2.mono hF3) (by omega)) Try.call73 rfl rfl rfl (fun _ s => s.pick (.there .here)) (fun _ _ _ hF hq w s => by obtain ⟨_, _, _, rfl⟩ := hq; exact (sat_pre (H := [blk b8 52 q3.1.cells]) s.drop).mono hF) ?_)
      rintro _ F4 _ hF4 ⟨v4, rfl, hv4, rfl⟩
      refine aS F4 [blk b8 52 q3.1.cells] (fun _ s => s.mono hF4) (fun _ s => sat_pre (H := [blk b8 52 q3.1.cells]) s.drop) ?_
      generalize hr4 : numR r2.2.1 r2.2.2 1 = r4 at *
      replace m4 : r4.1 < 256 := m4
      refine aT 4 rfl (ev_conv rfl rfl rfl (wrap_in (show InK .u32 (r4.1 : Int) by dsimp only [InK]; omega))) rfl rfl ?_ ?_ ?_ ?_; kernel_rfl; kernel_rfl; kernel_rfl
      refine aT 5 rfl (ev_build (t := Et.cells ⟨q3.1, r4.1⟩) rfl rfl hpl (hfill ⟨q3.1, r4.1⟩)) rfl rfl ?_ ?_ ?_ ?_; kernel_rfl; kernel_rfl; kernel_rfl
      refine aB (i := 6) (by kernel_rfl) (aE rfl (ev_one rfl (vs := Et.cells ⟨q3.1, r4.1⟩) .agg rfl elEt) rfl rfl (fun _ _ _ _ hq w s => by obtain ⟨rfl, _, _, rfl⟩ := hq; exact sat_pre (H := [blk b8 52 q3.1.cells]) s.drop.drop) ?_)
      rintro _ _ _ _ ⟨rfl, bo, rfl, rfl⟩
      refine aB (i := 7) (by kernel_rfl) (aE rfl (ev_append (n := j) (xs := etCs es) (m := 1) (K := fun v' => blk bo 54 (Et.cells ⟨q3.1, r4.1⟩) :: rdr br v4 r4.2.1 :: blk b8 52 q3.1.cells :: own v' 54 8 (j + 1) (etCs es ++ Et.cells ⟨q3.1, r4.1⟩) :: X) rfl rfl elEt (Rdb.ofB (n := 0) .here rfl) rfl (Et.ones _) (by omega) (by unfold maxLen; omega) (fun v' => .there (.there (.there .here)))) rfl rfl (fun _ _ _ _ hq w s => by obtain ⟨rfl, _, rfl⟩ := hq; exact sat_pre (H := [blk b8 52 q3.1.cells]) s.drop.drop) ?_)
      rintro u5 _ _ _ ⟨rfl, _, rfl⟩
      refine aT 8 rfl (ev_pv rfl) rfl rfl ?_ ?_ ?_ ?_; kernel_rfl; kernel_rfl; kernel_rfl
      refine aD (by kernel_rfl) ?_
      repeat (first|refine zJ rfl rfl ?_|refine jr rfl ?_|refine jn ?_|refine zM rfl rfl ?_|(refine zC rfl rfl ?_ rfl ?_;omega)|(refine zD rfl rfl ?_ rfl ?_;omega)|(refine zP rfl ?_ rfl ?_;omega)|refine zG rfl rfl rfl rfl ?_|(refine jdq rfl rfl ?_ ?_ ?_;kernel_rfl;kernel_rfl)|refine zB rfl rfl rfl (by repeat constructor) rfl ?_|refine zH .here rfl rfl rfl rfl ?_|refine zH (.there .here) rfl rfl rfl rfl ?_|refine zH (.there (.there .here)) rfl rfl rfl rfl ?_)
      refine J_again3 (j + 1) (v4, u5) F4 ⟨hlt, hG.trans (hF2.trans (hF3.trans hF4)), by rw [hsn]; exact hv4, by rw [hsn]⟩ (by omega) ⟨⟨rfl, rfl, rfl, rfl, rfl, rfl, trivial⟩, fun w s => ?_⟩
      rw [hsn]
      dsimp only
      rw [etCs_snoc]
      exact (s.drop.pick (.there .here)).drop
    · rw [decide_eq_false he] at hstop ⊢
      repeat (first|refine zJ rfl rfl ?_|refine jr rfl ?_|refine jn ?_|refine zM rfl rfl ?_|(refine zC rfl rfl ?_ rfl ?_;omega)|(refine zD rfl rfl ?_ rfl ?_;omega)|(refine zP rfl ?_ rfl ?_;omega)|refine zG rfl rfl rfl rfl ?_|(refine jdq rfl rfl ?_ ?_ ?_;kernel_rfl;kernel_rfl)|refine zB rfl rfl rfl (by repeat constructor) rfl ?_|refine zH .here rfl rfl rfl rfl ?_|refine zH (.there .here) rfl rfl rfl rfl ?_|refine zH (.there (.there .here)) rfl rfl rfl rfl ?_)
      refine J_retv rfl (.tmp rfl (.tmp rfl .nil)) [] (fun w s => s.drop.drop.drop) (hF0.trans (hF1.trans (hG.trans (hF2.trans hF3)))) ?_
      unfold batchP
      rw [hb, if_pos (.inl (hstop rfl))]
      exact ⟨rfl, _, rfl, Ents.nil _⟩
  · obtain rfl : j = K := by omega
    have hjr : j = r1.1 := by
      have := entsR_t hok
      omega
    subst hjr
    have hfin := entsR_fine (m := bs.length) (e := r1.2.1) (bs := r1.2.2) (by omega) r1.1
    have hel := entsR_len bs.length r1.2.1 r1.2.2 r1.1
    rw [← hb] at *
    unfold batchP
    generalize batR bs = s at *
    obtain ⟨ok, es, e, rs⟩ := s
    dsimp only at *
    subst hok
    repeat (first|refine zJ rfl rfl ?_|refine jr rfl ?_|refine jn ?_|refine zM rfl rfl ?_|(refine zC rfl rfl ?_ rfl ?_;omega)|(refine zD rfl rfl ?_ rfl ?_;omega)|(refine zP rfl ?_ rfl ?_;omega)|refine zG rfl rfl rfl rfl ?_|(refine jdq rfl rfl ?_ ?_ ?_;kernel_rfl;kernel_rfl)|refine zB rfl rfl rfl (by repeat constructor) rfl ?_|refine zH .here rfl rfl rfl rfl ?_|refine zH (.there .here) rfl rfl rfl rfl ?_|refine zH (.there (.there .here)) rfl rfl rfl rfl ?_)
    refine oC (Hc := [rdr br v e]) (Hr := own vo 54 8 r1.1 (etCs es) :: X) (end_spec br v e rs G hv) Try.call50 rfl rfl (fun _ s => s) ?_
    rintro _ _ _ _ ⟨rfl, rfl, rfl⟩
    have hFF := hF0.trans (hF1.trans hG)
    by_cases he : endR e rs = 0
    · rw [if_neg (by simp [he])]
      refine oW (H' := own vo 54 8 r1.1 (etCs es) :: X) ?_ (fun w s => s.drop)
      refine oPersist fun hh hA hd => ?_
      have hents : Ents (PH.un G hh) vo es := by rw [← hel] at hA; exact ⟨own_slice hA hd, hfin⟩
      have hle := PH.le_l G hh
      generalize PH.un G hh = G2 at *
      have hck := bcheck_spec vo es n G2 hents
      obtain ⟨ax, cx, rfl, _⟩ := hents.form
      repeat (first|refine zJ rfl rfl ?_|refine jr rfl ?_|refine jn ?_|refine zM rfl rfl ?_|(refine zC rfl rfl ?_ rfl ?_;omega)|(refine zD rfl rfl ?_ rfl ?_;omega)|(refine zP rfl ?_ rfl ?_;omega)|refine zG rfl rfl rfl rfl ?_|(refine jdq rfl rfl ?_ ?_ ?_;kernel_rfl;kernel_rfl)|refine zB rfl rfl rfl (by repeat constructor) rfl ?_|refine zH .here rfl rfl rfl rfl ?_|refine zH (.there .here) rfl rfl rfl rfl ?_|refine zH (.there (.there .here)) rfl rfl rfl rfl ?_)
      refine oP (hck) Try.call84 rfl rfl ?_
      by_cases hk : batchErr es n = 0
      · rw [if_neg (fun h => h hk), hk]
        repeat (first|refine zJ rfl rfl ?_|refine jr rfl ?_|refine jn ?_|refine zM rfl rfl ?_|(refine zC rfl rfl ?_ rfl ?_;omega)|(refine zD rfl rfl ?_ rfl ?_;omega)|(refine zP rfl ?_ rfl ?_;omega)|refine zG rfl rfl rfl rfl ?_|(refine jdq rfl rfl ?_ ?_ ?_;kernel_rfl;kernel_rfl)|refine zB rfl rfl rfl (by repeat constructor) rfl ?_|refine zH .here rfl rfl rfl rfl ?_|refine zH (.there .here) rfl rfl rfl rfl ?_|refine zH (.there (.there .here)) rfl rfl rfl rfl ?_)
        exact J_retv rfl (.tmp rfl (.tmp rfl .nil)) [] (fun w s => s) (hFF.trans hle) ⟨rfl, _, rfl, hents⟩
      · rw [if_pos hk]
        repeat (first|refine zJ rfl rfl ?_|refine jr rfl ?_|refine jn ?_|refine zM rfl rfl ?_|(refine zC rfl rfl ?_ rfl ?_;omega)|(refine zD rfl rfl ?_ rfl ?_;omega)|(refine zP rfl ?_ rfl ?_;omega)|refine zG rfl rfl rfl rfl ?_|(refine jdq rfl rfl ?_ ?_ ?_;kernel_rfl;kernel_rfl)|refine zB rfl rfl rfl (by repeat constructor) rfl ?_|refine zH .here rfl rfl rfl rfl ?_|refine zH (.there .here) rfl rfl rfl rfl ?_|refine zH (.there (.there .here)) rfl rfl rfl rfl ?_)
        exact J_retv rfl (.tmp rfl (.tmp rfl .nil)) [] (fun w s => s) (hFF.trans hle) ⟨rfl, _, rfl, Ents.nil _⟩
    · rw [if_pos (.inr he)]
      repeat (first|refine zJ rfl rfl ?_|refine jr rfl ?_|refine jn ?_|refine zM rfl rfl ?_|(refine zC rfl rfl ?_ rfl ?_;omega)|(refine zD rfl rfl ?_ rfl ?_;omega)|(refine zP rfl ?_ rfl ?_;omega)|refine zG rfl rfl rfl rfl ?_|(refine jdq rfl rfl ?_ ?_ ?_;kernel_rfl;kernel_rfl)|refine zB rfl rfl rfl (by repeat constructor) rfl ?_|refine zH .here rfl rfl rfl rfl ?_|refine zH (.there .here) rfl rfl rfl rfl ?_|refine zH (.there (.there .here)) rfl rfl rfl rfl ?_)
      exact J_retv rfl (.tmp rfl (.tmp rfl .nil)) [] (fun w s => s.drop.drop) hFF ⟨rfl, _, rfl, Ents.nil _⟩
end Go.Proofs.Ytaggonhgafggkaa
