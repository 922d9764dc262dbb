/-
  A script that is printed is parsed to it (ScriptBack), with what leads there. No condition beyond the row's own.
-/
import Derived.Test.YtekdmpbkcjjllaaDoorPy
import Derived.Test.YtekdmpbkcjjllaaDoorZq
import Derived.Test.YtekdmpbkcjjllaaDoorZu
namespace Go.Proofs.YtekdmpbkcjjllaaDoor
open Go.RowKit
set_option maxRecDepth 100000
def dFirstB (x : Su) : W8 := wCluster ++ spW (nums [x.f, x.clients]) ++ spW (nums x.liars)
set_option maxHeartbeats 8000000 in
theorem dfirst_spec (x : Su) (vl : Value) (F : PH) (hx : SuOk F x vl) (hl : x.liars.length ≤ 10000000) : Pure Tryd.prog 13 [.agg (suC x vl).toArray] F (.string (strOf (dFirstB x))) := by
  obtain ⟨la, lc, rfl, _, _⟩ := hx.liars.at1
  have hw := words_spec _ _ F hx.liars hl
  have l1 := spW_nums_len (l := [x.f, x.clients]) (by simp only [List.mem_cons, List.not_mem_nil, or_false, forall_eq_or_imp, forall_eq]; exact ⟨hx.f, hx.clients⟩)
  have l2 := spW_nums_len hx.liars.2
  simp only [List.length_cons, List.length_nil] at l1
  refine Spec.of1 Tryd.func13 rfl rfl fun X w0 => ?_
  repeat (first|refine zJ rfl rfl ?_|refine jr rfl ?_|refine jn ?_|refine zM rfl rfl ?_|(refine zC rfl rfl ?_ rfl ?_;omega)|(refine zD rfl rfl ?_ rfl ?_;omega)|(refine zP rfl ?_ rfl ?_;omega)|refine zG rfl rfl rfl rfl ?_|(refine jdq rfl rfl ?_ ?_ ?_;kernel_rfl;kernel_rfl)|refine zB rfl rfl rfl (by repeat constructor) rfl ?_|refine zH .here rfl rfl rfl rfl ?_|refine zH (.there .here) rfl rfl rfl rfl ?_|refine zH (.there (.there .here)) rfl rfl rfl rfl ?_)
  refine oE (ev_box rfl .agg) rfl ?_; rintro _ _ _ _ ⟨rfl, b1, rfl, rfl⟩
  repeat (first|refine zJ rfl rfl ?_|refine jr rfl ?_|refine jn ?_|refine zM rfl rfl ?_|(refine zC rfl rfl ?_ rfl ?_;omega)|(refine zD rfl rfl ?_ rfl ?_;omega)|(refine zP rfl ?_ rfl ?_;omega)|refine zG rfl rfl rfl rfl ?_|(refine jdq rfl rfl ?_ ?_ ?_;kernel_rfl;kernel_rfl)|refine zB rfl rfl rfl (by repeat constructor) rfl ?_|refine zH .here rfl rfl rfl rfl ?_|refine zH (.there .here) rfl rfl rfl rfl ?_|refine zH (.there (.there .here)) rfl rfl rfl rfl ?_)
  refine ja F [blk b1 41 (suC x (.slice la x.liars.length lc))] ?_ ?_ ?_; kernel_rfl
  · exact fun w s => s.head
  refine aT 0 rfl (ev_qe rfl) rfl rfl ?_ ?_ ?_ ?_; kernel_rfl; kernel_rfl; kernel_rfl
  refine aT 1 rfl (ev_load (v := .int .i64 x.f) rfl rfl (Rdb.ofB (n := 0) .here rfl)) rfl rfl ?_ ?_ ?_ ?_; kernel_rfl; kernel_rfl; kernel_rfl
  refine aT 2 rfl (ev_qe rfl) rfl rfl ?_ ?_ ?_ ?_; kernel_rfl; kernel_rfl; kernel_rfl
  refine aT 3 rfl (ev_load (v := .int .i64 x.clients) rfl rfl (Rdb.ofB (n := 2) .here rfl)) rfl rfl ?_ ?_ ?_ ?_; kernel_rfl; kernel_rfl; kernel_rfl
  refine aT 7 rfl (ev_qe rfl) rfl rfl ?_ ?_ ?_ ?_; kernel_rfl; kernel_rfl; kernel_rfl
  refine aT 8 rfl (ev_load (v := .slice la x.liars.length lc) rfl rfl (Rdb.ofB (n := 1) .here rfl)) rfl rfl ?_ ?_ ?_ ?_; kernel_rfl; kernel_rfl; kernel_rfl
  refine aB (i := 4) (by kernel_rfl) (aE rfl (ev_buildSlice (E := 3) (zs := [.int .i64 0]) (r := [.int .i64 0, .int .i64 0]) (t := ints [x.f, x.clients]) rfl rfl rfl rfl rfl rfl (.cons .int rfl (by repeat constructor) (.cons .int rfl (by repeat constructor) .nil))) rfl rfl (fun _ _ _ _ hq w s => by obtain ⟨e, _, _, e2⟩ := hq; subst e; subst e2; exact s.drop.head) ?_)
  rintro _ _ _ _ ⟨rfl, bt, rfl, rfl⟩
  refine aPersist fun hh hA hd => ?_
  have hrow : NumRow (F.un hh) (.slice (some ⟨bt, 0, none⟩) 2 2) [x.f, x.clients] := NumRow.of_blk hA hd (by simp only [List.mem_cons, List.not_mem_nil, or_false, forall_eq_or_imp, forall_eq]; exact ⟨hx.f, hx.clients⟩)
  have hle := PH.le_l F hh
  have hw1 := words_spec _ _ (F.un hh) hrow (by show 2 ≤ 10000000; decide)
  have hw2 := words_spec _ _ (F.un hh) (hx.liars.mono hle) hl
  refine aB (i := 5) (by kernel_rfl) (aP rfl hw1 Tryd.call38 rfl rfl rfl (fun _ s => s.head.mono hle) ?_)
  refine aT 6 rfl (ev_cat (a := wCluster) rfl rfl (by rw [show wCluster.length = 7 from rfl]; omega)) rfl rfl ?_ ?_ ?_ ?_; kernel_rfl; kernel_rfl; kernel_rfl
  refine aB (i := 9) (by kernel_rfl) (aP rfl hw2 Tryd.call38 rfl rfl rfl (fun _ s => s.head.mono hle) ?_)
  refine aT 10 rfl (ev_cat rfl rfl (by rw [List.length_append, show wCluster.length = 7 from rfl]; omega)) rfl rfl ?_ ?_ ?_ ?_; kernel_rfl; kernel_rfl; kernel_rfl
  refine aT 11 rfl (ev_qe rfl) rfl rfl ?_ ?_ ?_ ?_; kernel_rfl; kernel_rfl; kernel_rfl
  refine aD (by kernel_rfl) ?_
  repeat (first|refine zJ rfl rfl ?_|refine jr rfl ?_|refine jn ?_|refine zM rfl rfl ?_|(refine zC rfl rfl ?_ rfl ?_;omega)|(refine zD rfl rfl ?_ rfl ?_;omega)|(refine zP rfl ?_ rfl ?_;omega)|refine zG rfl rfl rfl rfl ?_|(refine jdq rfl rfl ?_ ?_ ?_;kernel_rfl;kernel_rfl)|refine zB rfl rfl rfl (by repeat constructor) rfl ?_|refine zH .here rfl rfl rfl rfl ?_|refine zH (.there .here) rfl rfl rfl rfl ?_|refine zH (.there (.there .here)) rfl rfl rfl rfl ?_)
  exact J_retv rfl (.tmp rfl .nil) [] (fun w s => s.drop) hle ⟨rfl, rfl⟩
set_option maxHeartbeats 8000000 in
theorem dsetup_spec (x y : Su) (vl wl : Value) (F : PH) (hx : SuOk F x vl) (hy : SuOk F y wl) (hl : x.liars.length ≤ 10000000) (hl2 : y.liars.length ≤ 10000000) : Pure Tryd.prog 16 [.agg (suC x vl).toArray, .agg (suC y wl).toArray] F (.bool (decide (dFirstB x = dFirstB y))) := by
  have h1 := dfirst_spec x vl F hx hl
  have h2 := dfirst_spec y wl F hy hl2
  refine Spec.of2 Tryd.func16 rfl rfl fun X w0 => ?_
  repeat (first|refine zJ rfl rfl ?_|refine jr rfl ?_|refine jn ?_|refine zM rfl rfl ?_|(refine zC rfl rfl ?_ rfl ?_;omega)|(refine zD rfl rfl ?_ rfl ?_;omega)|(refine zP rfl ?_ rfl ?_;omega)|refine zG rfl rfl rfl rfl ?_|(refine jdq rfl rfl ?_ ?_ ?_;kernel_rfl;kernel_rfl)|refine zB rfl rfl rfl (by repeat constructor) rfl ?_|refine zH .here rfl rfl rfl rfl ?_|refine zH (.there .here) rfl rfl rfl rfl ?_|refine zH (.there (.there .here)) rfl rfl rfl rfl ?_)
  refine oE (ev_box rfl .agg) rfl ?_; rintro _ _ _ _ ⟨rfl, b2, rfl, rfl⟩
  refine oE (ev_box rfl .agg) rfl ?_; rintro _ _ _ _ ⟨rfl, b3, rfl, rfl⟩
  repeat (first|refine zJ rfl rfl ?_|refine jr rfl ?_|refine jn ?_|refine zM rfl rfl ?_|(refine zC rfl rfl ?_ rfl ?_;omega)|(refine zD rfl rfl ?_ rfl ?_;omega)|(refine zP rfl ?_ rfl ?_;omega)|refine zG rfl rfl rfl rfl ?_|(refine jdq rfl rfl ?_ ?_ ?_;kernel_rfl;kernel_rfl)|refine zB rfl rfl rfl (by repeat constructor) rfl ?_|refine zH .here rfl rfl rfl rfl ?_|refine zH (.there .here) rfl rfl rfl rfl ?_|refine zH (.there (.there .here)) rfl rfl rfl rfl ?_)
  refine jd rfl ?_ ?_ ?_; kernel_rfl; kernel_rfl
  refine oS (ev_load_agg (cs := suC x vl) rfl rfl (Rdb.ofB (n := 0) (.there .here) rfl) rfl) rfl ?_
  refine oP (h1) Tryd.call13 rfl rfl ?_
  refine oS (ev_load_agg (cs := suC y wl) rfl rfl (Rdb.ofB (n := 0) .here rfl) rfl) rfl ?_
  refine oP (h2) Tryd.call13 rfl rfl ?_
  refine oS (ev_seql (r := decide (dFirstB x = dFirstB y)) rfl rfl rfl) rfl ?_
  repeat (first|refine zJ rfl rfl ?_|refine jr rfl ?_|refine jn ?_|refine zM rfl rfl ?_|(refine zC rfl rfl ?_ rfl ?_;omega)|(refine zD rfl rfl ?_ rfl ?_;omega)|(refine zP rfl ?_ rfl ?_;omega)|refine zG rfl rfl rfl rfl ?_|(refine jdq rfl rfl ?_ ?_ ?_;kernel_rfl;kernel_rfl)|refine zB rfl rfl rfl (by repeat constructor) rfl ?_|refine zH .here rfl rfl rfl rfl ?_|refine zH (.there .here) rfl rfl rfl rfl ?_|refine zH (.there (.there .here)) rfl rfl rfl rfl ?_)
  exact J_retv rfl (.tmp rfl .nil) [] (fun w s => s.drop.drop) (PH.ler _) ⟨rfl, rfl⟩
theorem firstN_plain (r : List W8) : firstN r = match allW numW r with | some (f :: c :: l) => some ⟨f, l, c⟩ | _ => none := by
  cases r with
  | nil => rfl
  | cons a r =>
    rw [allW_cons]
    show (numW a).bind _ = _
    cases numW a with
    | none => rfl
    | some f =>
      cases r with
      | nil => rfl
      | cons b r =>
        rw [allW_cons]
        show (numW b).bind _ = _
        cases numW b with
        | none => rfl
        | some c =>
          show (allW numW r).map _ = _
          cases allW numW r <;> rfl
/-- What the document's Parse hands back of a text that isn't long. -/
def DParseQ (t : W8) (u : Value) (F' : PH) : Prop := ∃ x vl l vs e, u = .tuple #[.agg (suC x vl).toArray, vs, .int .i64 e] ∧ SuOk F' x vl ∧ StRow F' vs l ∧ ((parseT t = none ∧ e = 2 ∧ x = zSu ∧ l = []) ∨ (parseT t = some (x, l) ∧ e = 0))
theorem IQ.row {r : Option (List Int)} {u : Value} {F : PH} (h : IQ r u F) : ∃ na nc, u = .tuple #[.slice na (r.getD []).length nc, .bool r.isSome] ∧ NumRow F (.slice na (r.getD []).length nc) (r.getD []) := by
  obtain ⟨v, rfl, hv⟩ := h
  obtain ⟨a, c, rfl, _, _⟩ := hv.at1
  exact ⟨a, c, rfl, hv⟩
theorem StRow.cells {F : PH} {a : Option Addr} {n c : Nat} {L : List St} (h : StRow F (.slice a n c) L) : n = L.length ∧ ∀ i x, L[i]? = some x → ∃ b off vo vb vt, a = some ⟨b, off, none⟩ ∧ Cells F b (off + i * 17) (stC x vo vb vt) ∧ StOk F x vo vb vt := by
  obtain ⟨css, h1, h2⟩ := h
  obtain ⟨_, a', c', e, _, _⟩ := id h1
  injection e with e1 e2 e3
  subst e1 e2 e3
  refine ⟨rfl, fun i x hi => ?_⟩
  obtain ⟨r, hr, vo, vb, vt, rfl, hok, _⟩ := h2.at hi
  have h17 : ∀ c ∈ css, c.length = 17 := fun c hc => by
    obtain ⟨y, _, vo, vb, vt, e, _⟩ := h2.right c hc
    rw [e]; rfl
  obtain ⟨b, off, e, hc⟩ := SliceV.row h1 h17 hr (List.getElem?_eq_some_iff.1 hi).1
  exact ⟨b, off, vo, vb, vt, e, hc, hok⟩
theorem first_len {W : List W8} {x : Su} (h : firstR W = some x) : x.liars.length ≤ W.length := by
  unfold firstR at h
  split at h
  · rw [firstN_plain] at h
    cases e : allW numW W.tail with
    | none => rw [e] at h; cases h
    | some l =>
      have hl := allW_len e
      rw [List.length_tail] at hl
      rw [e] at h
      match l, hl, h with
      | [], _, h => cases h
      | [_], _, h => cases h
      | f :: c :: li, hl, h => cases h; simp at hl ⊢; omega
  · cases h
theorem parseAll_mem : ∀ {K : List W8} {l : List St}, parseAll K = some l → ∀ x ∈ l, ∃ ln ∈ K, parseP (splW 32 ln) = some x
  | [], l, h, x, hx => by cases h; cases hx
  | t :: r, l, h, x, hx => by
    rw [parseAll_cons] at h
    cases e : parseP (splW 32 t) with
    | none => rw [e] at h; cases h
    | some y =>
      rw [e, Option.bind_some] at h
      cases e2 : parseAll r with
      | none => rw [e2] at h; cases h
      | some m =>
        rw [e2] at h
        cases h
        rcases List.mem_cons.1 hx with rfl | hx
        · exact ⟨t, by simp, e⟩
        · obtain ⟨ln, h1, h2⟩ := parseAll_mem e2 x hx
          exact ⟨ln, by simp [h1], h2⟩
theorem parseAll_len : ∀ {K : List W8} {l : List St}, parseAll K = some l → l.length = K.length
  | [], l, h => by cases h; rfl
  | t :: r, l, h => by
    rw [parseAll_cons] at h
    cases e : parseP (splW 32 t) with
    | none => rw [e] at h; cases h
    | some y =>
      rw [e, Option.bind_some] at h
      cases e2 : parseAll r with
      | none => rw [e2] at h; cases h
      | some m => rw [e2] at h; cases h; rw [List.length_cons, List.length_cons, parseAll_len e2]
theorem parseT_cnt {t : W8} {su : Su} {l : List St} (h : parseT t = some (su, l)) : l.length ≤ t.length := by
  unfold parseT at h
  split at h
  · cases e : firstR (splW 32 ((splW 10 t).headD [])) with
    | none => rw [e] at h; cases h
    | some x =>
      rw [e, Option.bind_some] at h
      cases e2 : parseAll ((splW 10 t).tail.dropLast) with
      | none => rw [e2] at h; cases h
      | some m =>
        rw [e2] at h
        cases h
        have h1 := parseAll_len e2
        have h2 := splW_len_le 10 t
        rw [List.length_dropLast, List.length_tail] at h1
        omega
  · cases h
theorem parseT_len {t : W8} {su : Su} {l : List St} (h : parseT t = some (su, l)) : su.liars.length ≤ t.length + 1 ∧ ∀ x ∈ l, x.orgs.length ≤ t.length + 1 ∧ x.tags.length ≤ t.length + 1 := by
  unfold parseT at h
  split at h
  · rename_i h0
    cases e : firstR (splW 32 ((splW 10 t).headD [])) with
    | none => rw [e] at h; cases h
    | some x =>
      rw [e, Option.bind_some] at h
      cases e2 : parseAll ((splW 10 t).tail.dropLast) with
      | none => rw [e2] at h; cases h
      | some m =>
        rw [e2] at h
        cases h
        have hm := splW_mem 10 t
        have hne := splW_ne 10 t
        refine ⟨?_, fun y hy => ?_⟩
        · have h1 := first_len e
          have h2 := splW_len_le 32 ((splW 10 t).headD [])
          have h3 : ((splW 10 t).headD []).length ≤ t.length := by
            cases hs : splW 10 t with
            | nil => exact absurd hs hne
            | cons w r => rw [hs] at hm; exact hm w (by simp)
          omega
        · obtain ⟨ln, h1, h2⟩ := parseAll_mem e2 y hy
          have h3 := hm ln (List.mem_of_mem_tail ((List.dropLast_sublist _).subset h1))
          have h4 := parseP_len h2
          have h5 := splW_len_le 32 ln
          exact ⟨by omega, by omega⟩
  · cases h
end Go.Proofs.YtekdmpbkcjjllaaDoor
namespace Go.Proofs.YtekdmpbkcjjllaaDoor
open Go.RowKit
set_option maxRecDepth 100000
theorem nil_own {F : PH} {H : List Asrt} {w : World} (E size : Nat) (s : Sat F H w) : Sat F (own (.slice none 0 0) E size 0 [] :: H) w := by
  obtain ⟨r, hr, hd, hw⟩ := s
  exact ⟨r, ⟨PH.emp, r, ⟨by simp, .inl ⟨rfl, rfl, rfl⟩⟩, hr, PH.emp_dj _, (PH.emp_un _).symm⟩, hd, hw⟩
def firstB (x : Su) : W8 := wCluster ++ spW (nums [x.f, x.clients] ++ nums x.liars)
theorem firstB_len {F : PH} {x : Su} {vl : Value} (hx : SuOk F x vl) : (firstB x).length ≤ 60 + 22 * x.liars.length := by
  have h1 := spW_nums_len hx.liars.2
  have h2 := itoa_len hx.f
  have h3 := itoa_len hx.clients
  unfold firstB
  rw [spW_app, List.length_append, List.length_append]
  have : (spW (nums [x.f, x.clients])).length ≤ 44 := spW_nums_len (l := [x.f, x.clients]) (by simp only [List.mem_cons, List.not_mem_nil, or_false, forall_eq_or_imp, forall_eq]; exact ⟨hx.f, hx.clients⟩)
  have : wCluster.length = 7 := rfl
  omega
set_option maxHeartbeats 4000000 in
theorem pfirst_spec (x : Su) (vl : Value) (F : PH) (hT : TabF F) (hx : SuOk F x vl) (hl : x.liars.length ≤ 1000000) : Spec Tryd.prog 17 [.agg (suC x vl).toArray] F [] fun u _ H' => H' = [] ∧ u = .string (strOf (firstB x)) := by
  refine Spec.of1 Tryd.func17 rfl rfl fun X w0 => ?_
  obtain ⟨_, la, lc, rfl, _, _⟩ := slice1 hx.liars.1
  have hlen := firstB_len hx
  repeat (first|refine zJ rfl rfl ?_|refine jr rfl ?_|refine jn ?_|refine zM rfl rfl ?_|(refine zC rfl rfl ?_ rfl ?_;omega)|(refine zD rfl rfl ?_ rfl ?_;omega)|(refine zP rfl ?_ rfl ?_;omega)|refine zG rfl rfl rfl rfl ?_|(refine jdq rfl rfl ?_ ?_ ?_;kernel_rfl;kernel_rfl)|refine zB rfl rfl rfl (by repeat constructor) rfl ?_|refine zH .here rfl rfl rfl rfl ?_|refine zH (.there .here) rfl rfl rfl rfl ?_|refine zH (.there (.there .here)) rfl rfl rfl rfl ?_)
  refine oE (ev_box rfl .agg) rfl ?_; rintro _ _ _ _ ⟨rfl, b1, rfl, rfl⟩
  repeat (first|refine zJ rfl rfl ?_|refine jr rfl ?_|refine jn ?_|refine zM rfl rfl ?_|(refine zC rfl rfl ?_ rfl ?_;omega)|(refine zD rfl rfl ?_ rfl ?_;omega)|(refine zP rfl ?_ rfl ?_;omega)|refine zG rfl rfl rfl rfl ?_|(refine jdq rfl rfl ?_ ?_ ?_;kernel_rfl;kernel_rfl)|refine zB rfl rfl rfl (by repeat constructor) rfl ?_|refine zH .here rfl rfl rfl rfl ?_|refine zH (.there .here) rfl rfl rfl rfl ?_|refine zH (.there (.there .here)) rfl rfl rfl rfl ?_)
  refine oE (ev_box rfl .agg) rfl ?_; rintro _ _ _ _ ⟨rfl, b, rfl, rfl⟩
  repeat (first|refine zJ rfl rfl ?_|refine jr rfl ?_|refine jn ?_|refine zM rfl rfl ?_|(refine zC rfl rfl ?_ rfl ?_;omega)|(refine zD rfl rfl ?_ rfl ?_;omega)|(refine zP rfl ?_ rfl ?_;omega)|refine zG rfl rfl rfl rfl ?_|(refine jdq rfl rfl ?_ ?_ ?_;kernel_rfl;kernel_rfl)|refine zB rfl rfl rfl (by repeat constructor) rfl ?_|refine zH .here rfl rfl rfl rfl ?_|refine zH (.there .here) rfl rfl rfl rfl ?_|refine zH (.there (.there .here)) rfl rfl rfl rfl ?_)
  refine oW (F' := F) (H' := bld b (.pointer none) nl [] ++ (blk b1 41 (suC x (.slice la x.liars.length lc)) :: X)) ?_ (fun w s => Sat.unpick (.there .here) (nil_own _ _ s))
  refine oC (Hc := bld b (.pointer none) nl []) (Hr := _ :: X) (word_spec b (.pointer none) nl [] wCluster F ⟨.inl rfl, fun _ => rfl⟩ (by decide)) Tryd.call19 rfl rfl (fun _ s => s) ?_
  rintro _ F1 _ hF1 ⟨v1, rfl, h1⟩
  rw [addW_nil] at h1 ⊢
  repeat (first|refine zJ rfl rfl ?_|refine jr rfl ?_|refine jn ?_|refine zM rfl rfl ?_|(refine zC rfl rfl ?_ rfl ?_;omega)|(refine zD rfl rfl ?_ rfl ?_;omega)|(refine zP rfl ?_ rfl ?_;omega)|refine zG rfl rfl rfl rfl ?_|(refine jdq rfl rfl ?_ ?_ ?_;kernel_rfl;kernel_rfl)|refine zB rfl rfl rfl (by repeat constructor) rfl ?_|refine zH .here rfl rfl rfl rfl ?_|refine zH (.there .here) rfl rfl rfl rfl ?_|refine zH (.there (.there .here)) rfl rfl rfl rfl ?_)
  refine oE (ev_buildSlice (E := 3) (zs := [.int .i64 0]) (r := [.int .i64 0, .int .i64 0]) (t := ints [x.f, x.clients]) rfl rfl rfl rfl rfl rfl (.cons .int rfl (by repeat constructor) (.cons .int rfl (by repeat constructor) .nil))) rfl ?_
  rintro _ _ _ _ ⟨rfl, b4, rfl, rfl⟩
  refine oPersist fun hh hA hd => ?_
  have hrow : NumRow (PH.un F1 hh) (.slice (some ⟨b4, 0, none⟩) 2 2) [x.f, x.clients] := NumRow.of_blk hA hd (by simp only [List.mem_cons, List.not_mem_nil, or_false, forall_eq_or_imp, forall_eq]; exact ⟨hx.f, hx.clients⟩)
  have hG := hF1.trans (PH.le_l F1 hh)
  generalize PH.un F1 hh = G at *
  refine oC (Hc := bld b (pW b) v1 wCluster) (Hr := _ :: X) (wints_spec b v1 _ wCluster [x.f, x.clients] G (hT.mono hG) h1 (by decide) hrow (by simp) (by simp only [List.length_cons, List.length_nil]; decide)) Tryd.call21 rfl rfl (fun _ s => s) ?_
  rintro _ F2 _ hF2 ⟨v2, rfl, h2⟩
  have n2 : wCluster ++ spW (nums [x.f, x.clients]) ≠ [] := by simp [wCluster]
  have l2 : (wCluster ++ spW (nums [x.f, x.clients])).length ≤ 100 := by
    have : (spW (nums [x.f, x.clients])).length ≤ 44 := spW_nums_len (l := [x.f, x.clients]) (by simp only [List.mem_cons, List.not_mem_nil, or_false, forall_eq_or_imp, forall_eq]; exact ⟨hx.f, hx.clients⟩)
    have h7 : wCluster.length = 7 := rfl
    rw [List.length_append]; omega
  obtain ⟨bs2, e2⟩ : ∃ q, wCluster ++ spW (nums [x.f, x.clients]) = q := ⟨_, rfl⟩
  rw [e2] at n2 l2 h2 ⊢
  repeat (first|refine zJ rfl rfl ?_|refine jr rfl ?_|refine jn ?_|refine zM rfl rfl ?_|(refine zC rfl rfl ?_ rfl ?_;omega)|(refine zD rfl rfl ?_ rfl ?_;omega)|(refine zP rfl ?_ rfl ?_;omega)|refine zG rfl rfl rfl rfl ?_|(refine jdq rfl rfl ?_ ?_ ?_;kernel_rfl;kernel_rfl)|refine zB rfl rfl rfl (by repeat constructor) rfl ?_|refine zH .here rfl rfl rfl rfl ?_|refine zH (.there .here) rfl rfl rfl rfl ?_|refine zH (.there (.there .here)) rfl rfl rfl rfl ?_)
  refine oC (Hc := bld b (pW b) v2 bs2) (Hr := _ :: X) (wints_spec b v2 _ bs2 x.liars F2 (hT.mono (hG.trans hF2)) h2 n2 (hx.liars.mono (hG.trans hF2)) hl (by omega)) Tryd.call21 rfl rfl (fun _ s => s) ?_
  rintro _ F3 _ hF3 ⟨v3, rfl, h3⟩
  have e3 : bs2 ++ spW (nums x.liars) = firstB x := by rw [← e2]; unfold firstB; rw [spW_app, List.append_assoc]
  rw [e3] at h3 ⊢
  refine oW (F' := F3) (H' := bldZ b (pW b) v3 (firstB x) ++ (blk b1 41 (suC x (.slice la x.liars.length lc)) :: X)) ?_ (fun w s => bld_Z s)
  repeat (first|refine zJ rfl rfl ?_|refine jr rfl ?_|refine jn ?_|refine zM rfl rfl ?_|(refine zC rfl rfl ?_ rfl ?_;omega)|(refine zD rfl rfl ?_ rfl ?_;omega)|(refine zP rfl ?_ rfl ?_;omega)|refine zG rfl rfl rfl rfl ?_|(refine jdq rfl rfl ?_ ?_ ?_;kernel_rfl;kernel_rfl)|refine zB rfl rfl rfl (by repeat constructor) rfl ?_|refine zH .here rfl rfl rfl rfl ?_|refine zH (.there .here) rfl rfl rfl rfl ?_|refine zH (.there (.there .here)) rfl rfl rfl rfl ?_)
  refine oC (Hc := bldZ b (pW b) v3 (firstB x)) (Hr := _ :: X) (bString_spec b (pW b) v3 (firstB x) F3 h3) Tryd.call25 rfl rfl (fun _ s => s) ?_
  rintro _ F4 _ hF4 ⟨rfl, rfl⟩
  repeat (first|refine zJ rfl rfl ?_|refine jr rfl ?_|refine jn ?_|refine zM rfl rfl ?_|(refine zC rfl rfl ?_ rfl ?_;omega)|(refine zD rfl rfl ?_ rfl ?_;omega)|(refine zP rfl ?_ rfl ?_;omega)|refine zG rfl rfl rfl rfl ?_|(refine jdq rfl rfl ?_ ?_ ?_;kernel_rfl;kernel_rfl)|refine zB rfl rfl rfl (by repeat constructor) rfl ?_|refine zH .here rfl rfl rfl rfl ?_|refine zH (.there .here) rfl rfl rfl rfl ?_|refine zH (.there (.there .here)) rfl rfl rfl rfl ?_)
  exact J_retv (vs := [.string (strOf (firstB x))]) rfl (.tmp rfl .nil) [] (fun w s => s.drop.drop.drop) (hG.trans (hF2.trans (hF3.trans hF4))) ⟨rfl, rfl⟩
/-- What is printed. -/
def linesB (L : List St) : W8 := L.flatMap fun x => lineB x ++ [10]
def printB (su : Su) (L : List St) : W8 := firstB su ++ [10] ++ linesB L
noncomputable def allOk : List St → Bool
  | [] => true
  | x :: r => okL x && allOk r
theorem linesB_snoc (L : List St) (x : St) : linesB (L ++ [x]) = linesB L ++ (lineB x ++ [10]) := by simp [linesB]
theorem allOk_snoc (L : List St) (x : St) : allOk (L ++ [x]) = (allOk L && okL x) := by
  induction L with
  | nil => simp [allOk]
  | cons y r ih => simp [allOk, ih, Bool.and_assoc]
theorem allOk_bad : ∀ (L : List St) (i : Nat) (x : St), L[i]? = some x → okL x = false → allOk L = false
  | [], i, x, h, _ => by simp at h
  | y :: r, 0, x, h, h2 => by simp at h; subst h; simp [allOk, h2]
  | y :: r, i + 1, x, h, h2 => by simp [allOk, allOk_bad r i x (by simpa using h) h2]
/-- Each step is few, as long as those before it may be written. -/
def FewRow (L : List St) : Prop := ∀ i x, L[i]? = some x → allOk (L.take i) = true → FewSt x
/-- Steps in a row, whatever their letters. -/
def StRowW (F : PH) (v : Value) (l : List St) : Prop := ∃ css : List (List Value), SliceV F 17 v l.length css.flatten ∧ All2 (fun y c => ∃ vo vb vt, c = stC y vo vb vt ∧ StOk F y vo vb vt) l css
theorem StRowW.cells {F : PH} {a : Option Addr} {n c : Nat} {L : List St} (h : StRowW F (.slice a n c) L) : n = L.length ∧ ∀ i x, L[i]? = some x → ∃ b off vo vb vt, a = some ⟨b, off, none⟩ ∧ Cells F b (off + i * 17) (stC x vo vb vt) ∧ StOk F x vo vb vt := by
  obtain ⟨css, h1, h2⟩ := h
  obtain ⟨_, a', c', e, _, _⟩ := id h1
  injection e with e1 e2 e3
  subst e1 e2 e3
  refine ⟨rfl, fun i x hi => ?_⟩
  obtain ⟨r, hr, vo, vb, vt, rfl, hok⟩ := h2.at hi
  have h17 : ∀ c ∈ css, c.length = 17 := fun c hc => by
    obtain ⟨y, _, vo, vb, vt, e, _⟩ := h2.right c hc
    rw [e]; rfl
  obtain ⟨b, off, e, hc⟩ := SliceV.row h1 h17 hr (List.getElem?_eq_some_iff.1 hi).1
  exact ⟨b, off, vo, vb, vt, e, hc, hok⟩
theorem StRowW.mono {F G : PH} {v : Value} {l : List St} (h : StRowW F v l) (hl : F.le G) : StRowW G v l := by
  obtain ⟨css, h1, h2⟩ := h
  exact ⟨css, SliceV.mono h1 hl, All2.mono (fun _ _ ⟨a, b, c, e, k⟩ => ⟨a, b, c, e, k.mono hl⟩) h2⟩
set_option maxHeartbeats 8000000 in
theorem print_spec (su : Su) (vl : Value) (a : Option Addr) (c : Nat) (L : List St) (F : PH) (hF : LibF F) (hx : SuOk F su vl) (hl : su.liars.length ≤ 1000) (hL : StRowW F (.slice a L.length c) L) (hn : L.length ≤ 4096) (hfew : FewRow L) : Spec Tryd.prog 14 [.agg (suC su vl).toArray, .slice a L.length c] F [] fun u _ H' => H' = [] ∧ u = if allOk L then .tuple #[.string (strOf (printB su L)), .int .i64 0] else .tuple #[.string (strOf []), .int .i64 2] := by
  refine Spec.of2 Tryd.func14 rfl rfl fun X w0 => ?_
  obtain ⟨_, la, lc, rfl, _, _⟩ := slice1 hx.liars.1
  have hlen := firstB_len hx
  repeat (first|refine zJ rfl rfl ?_|refine jr rfl ?_|refine jn ?_|refine zM rfl rfl ?_|(refine zC rfl rfl ?_ rfl ?_;omega)|(refine zD rfl rfl ?_ rfl ?_;omega)|(refine zP rfl ?_ rfl ?_;omega)|refine zG rfl rfl rfl rfl ?_|(refine jdq rfl rfl ?_ ?_ ?_;kernel_rfl;kernel_rfl)|refine zB rfl rfl rfl (by repeat constructor) rfl ?_|refine zH .here rfl rfl rfl rfl ?_|refine zH (.there .here) rfl rfl rfl rfl ?_|refine zH (.there (.there .here)) rfl rfl rfl rfl ?_)
  refine oE (ev_box rfl .agg) rfl ?_; rintro _ _ _ _ ⟨rfl, b2, rfl, rfl⟩
  repeat (first|refine zJ rfl rfl ?_|refine jr rfl ?_|refine jn ?_|refine zM rfl rfl ?_|(refine zC rfl rfl ?_ rfl ?_;omega)|(refine zD rfl rfl ?_ rfl ?_;omega)|(refine zP rfl ?_ rfl ?_;omega)|refine zG rfl rfl rfl rfl ?_|(refine jdq rfl rfl ?_ ?_ ?_;kernel_rfl;kernel_rfl)|refine zB rfl rfl rfl (by repeat constructor) rfl ?_|refine zH .here rfl rfl rfl rfl ?_|refine zH (.there .here) rfl rfl rfl rfl ?_|refine zH (.there (.there .here)) rfl rfl rfl rfl ?_)
  refine oS (ev_load_agg (cs := suC su (.slice la su.liars.length lc)) rfl rfl (Rdb.ofB (n := 0) .here rfl) rfl) rfl ?_
  refine oC (Hc := []) (Hr := _ :: X) (pfirst_spec su _ F hF.tab hx (by omega)) Tryd.call17 rfl rfl (fun _ s => s) ?_
  rintro _ F1 _ hF1 ⟨rfl, rfl⟩
  refine oS (ev_cat (b := [10]) rfl rfl (by simp; omega)) rfl ?_
  repeat (first|refine zJ rfl rfl ?_|refine jr rfl ?_|refine jn ?_|refine zM rfl rfl ?_|(refine zC rfl rfl ?_ rfl ?_;omega)|(refine zD rfl rfl ?_ rfl ?_;omega)|(refine zP rfl ?_ rfl ?_;omega)|refine zG rfl rfl rfl rfl ?_|(refine jdq rfl rfl ?_ ?_ ?_;kernel_rfl;kernel_rfl)|refine zB rfl rfl rfl (by repeat constructor) rfl ?_|refine zH .here rfl rfl rfl rfl ?_|refine zH (.there .here) rfl rfl rfl rfl ?_|refine zH (.there (.there .here)) rfl rfl rfl rfl ?_)
  have hat := hL.cells.2
  have hbase : (firstB su ++ [10]).length ≤ 30000 := by rw [List.length_append, List.length_singleton]; omega
  refine J_loop (ι := Nat × W8 × PH) (fun p => p.1 ≤ L.length ∧ F.le p.2.2 ∧ p.2.1 = firstB su ++ [10] ++ linesB (L.take p.1) ∧ p.2.1.length ≤ 30000 + 100001 * p.1 ∧ allOk (L.take p.1) = true) (fun p => L.length - p.1) (fun p => [(6, .string (strOf p.2.1)), (17, .slice a L.length c), (18, .int .i64 L.length), (19, .int .i64 p.1)]) (fun p => p.2.2)
    (fun _ => blk b2 41 (suC su (.slice la su.liars.length lc)) :: X) (0, firstB su ++ [10], F1) ⟨Nat.zero_le _, hF1, by simp [linesB], by dsimp only; omega, rfl⟩ ⟨⟨rfl, rfl, rfl, rfl, trivial⟩, fun w s => s⟩ ?_
  rintro ⟨i, out, G⟩ ⟨hi, hG, hout, hol, hao⟩
  dsimp only at *
  by_cases hlt : i < L.length
  · have hg : L[i]? = some L[i] := List.getElem?_eq_getElem hlt
    obtain ⟨b1, o1, vo, vb, vt, rfl, hcc, hok⟩ := hat i _ hg
    have hfx := hfew i _ hg hao
    have htk : L.take (i + 1) = L.take i ++ [L[i]] := by rw [List.take_add_one, hg]; rfl
    have hbad := fun h => allOk_bad L i _ hg h
    generalize L[i] = x at *
    have hls := line_spec x vo vb vt G (hF.mono hG) (hok.mono hG) hfx
    have hll := lineB_len hok hfx
    repeat (first|refine zJ rfl rfl ?_|refine jr rfl ?_|refine jn ?_|refine zM rfl rfl ?_|(refine zC rfl rfl ?_ rfl ?_;omega)|(refine zD rfl rfl ?_ rfl ?_;omega)|(refine zP rfl ?_ rfl ?_;omega)|refine zG rfl rfl rfl rfl ?_|(refine jdq rfl rfl ?_ ?_ ?_;kernel_rfl;kernel_rfl)|refine zB rfl rfl rfl (by repeat constructor) rfl ?_|refine zH .here rfl rfl rfl rfl ?_|refine zH (.there .here) rfl rfl rfl rfl ?_|refine zH (.there (.there .here)) rfl rfl rfl rfl ?_)
    refine oS (ev_indexAddr rfl rfl rfl hlt) rfl ?_
    refine oS (ev_load_agg (cs := stC x vo vb vt) rfl rfl (Rdb.ofF (hcc.mono hG)) rfl) rfl ?_
    refine oE (ev_alloc (cs := zStC) rfl) rfl ?_
    rintro _ _ _ _ ⟨rfl, b8, rfl, rfl⟩
    refine oN (ev_store (vs := stC x vo vb vt) rfl rfl .agg rfl rfl (lay_all (zs := zStC) rfl) hok.ones .here) rfl ?_
    rintro _ _ _ _ ⟨rfl, _, rfl⟩
    repeat (first|refine zJ rfl rfl ?_|refine jr rfl ?_|refine jn ?_|refine zM rfl rfl ?_|(refine zC rfl rfl ?_ rfl ?_;omega)|(refine zD rfl rfl ?_ rfl ?_;omega)|(refine zP rfl ?_ rfl ?_;omega)|refine zG rfl rfl rfl rfl ?_|(refine jdq rfl rfl ?_ ?_ ?_;kernel_rfl;kernel_rfl)|refine zB rfl rfl rfl (by repeat constructor) rfl ?_|refine zH .here rfl rfl rfl rfl ?_|refine zH (.there .here) rfl rfl rfl rfl ?_|refine zH (.there (.there .here)) rfl rfl rfl rfl ?_)
    refine oS (ev_load_agg (cs := stC x vo vb vt) rfl rfl (Rdb.ofB (n := 0) .here rfl) rfl) rfl ?_
    refine oC (Hc := []) (Hr := _ :: _ :: X) hls Tryd.call8 rfl rfl (fun _ s => s) ?_
    rintro _ G1 _ hG1 ⟨rfl, rfl⟩
    cases hk : okL x with
    | false =>
      rw [hbad hk]
      repeat (first|refine zJ rfl rfl ?_|refine jr rfl ?_|refine jn ?_|refine zM rfl rfl ?_|(refine zC rfl rfl ?_ rfl ?_;omega)|(refine zD rfl rfl ?_ rfl ?_;omega)|(refine zP rfl ?_ rfl ?_;omega)|refine zG rfl rfl rfl rfl ?_|(refine jdq rfl rfl ?_ ?_ ?_;kernel_rfl;kernel_rfl)|refine zB rfl rfl rfl (by repeat constructor) rfl ?_|refine zH .here rfl rfl rfl rfl ?_|refine zH (.there .here) rfl rfl rfl rfl ?_|refine zH (.there (.there .here)) rfl rfl rfl rfl ?_)
      exact J_retv (vs := [.string (strOf []), .int .i64 2]) rfl (.tmp rfl (.tmp rfl .nil)) [] (fun w s => s.drop.drop) (hG.trans hG1) ⟨rfl, rfl⟩
    | true =>
      rw [if_pos rfl]
      repeat (first|refine zJ rfl rfl ?_|refine jr rfl ?_|refine jn ?_|refine zM rfl rfl ?_|(refine zC rfl rfl ?_ rfl ?_;omega)|(refine zD rfl rfl ?_ rfl ?_;omega)|(refine zP rfl ?_ rfl ?_;omega)|refine zG rfl rfl rfl rfl ?_|(refine jdq rfl rfl ?_ ?_ ?_;kernel_rfl;kernel_rfl)|refine zB rfl rfl rfl (by repeat constructor) rfl ?_|refine zH .here rfl rfl rfl rfl ?_|refine zH (.there .here) rfl rfl rfl rfl ?_|refine zH (.there (.there .here)) rfl rfl rfl rfl ?_)
      refine oS (ev_cat (b := [10]) rfl rfl (by simp; omega)) rfl ?_
      refine oS (ev_cat rfl rfl (by simp; omega)) rfl ?_
      repeat (first|refine zJ rfl rfl ?_|refine jr rfl ?_|refine jn ?_|refine zM rfl rfl ?_|(refine zC rfl rfl ?_ rfl ?_;omega)|(refine zD rfl rfl ?_ rfl ?_;omega)|(refine zP rfl ?_ rfl ?_;omega)|refine zG rfl rfl rfl rfl ?_|(refine jdq rfl rfl ?_ ?_ ?_;kernel_rfl;kernel_rfl)|refine zB rfl rfl rfl (by repeat constructor) rfl ?_|refine zH .here rfl rfl rfl rfl ?_|refine zH (.there .here) rfl rfl rfl rfl ?_|refine zH (.there (.there .here)) rfl rfl rfl rfl ?_)
      refine J_again (ι := Nat × W8 × PH) (i + 1, out ++ (lineB x ++ [10]), G1) ⟨hlt, hG.trans hG1, ?_, ?_, ?_⟩ (by dsimp only; omega) ⟨⟨rfl, rfl, rfl, rfl, trivial⟩, fun w s => s.drop⟩
      · dsimp only
        rw [htk, linesB_snoc, hout, List.append_assoc]
      · dsimp only
        rw [List.length_append, List.length_append, List.length_singleton]
        omega
      · dsimp only
        rw [htk, allOk_snoc, hao, hk]
        rfl
  · obtain rfl : i = L.length := by omega
    rw [List.take_length] at hout hao
    rw [hao]
    subst hout
    repeat (first|refine zJ rfl rfl ?_|refine jr rfl ?_|refine jn ?_|refine zM rfl rfl ?_|(refine zC rfl rfl ?_ rfl ?_;omega)|(refine zD rfl rfl ?_ rfl ?_;omega)|(refine zP rfl ?_ rfl ?_;omega)|refine zG rfl rfl rfl rfl ?_|(refine jdq rfl rfl ?_ ?_ ?_;kernel_rfl;kernel_rfl)|refine zB rfl rfl rfl (by repeat constructor) rfl ?_|refine zH .here rfl rfl rfl rfl ?_|refine zH (.there .here) rfl rfl rfl rfl ?_|refine zH (.there (.there .here)) rfl rfl rfl rfl ?_)
    exact J_retv (vs := [.string (strOf (printB su L)), .int .i64 0]) rfl (.tmp rfl (.tmp rfl .nil)) [] (fun w s => s.drop) hG ⟨rfl, rfl⟩
theorem printMany_spec (su : Su) (vl : Value) (a : Option Addr) (n c : Nat) (F : PH) (hx : SuOk F su vl) (hn : 4096 < n) : Spec Tryd.prog 14 [.agg (suC su vl).toArray, .slice a n c] F [] fun u _ H' => H' = [] ∧ u = .tuple #[.string (strOf []), .int .i64 4] := by
  refine Spec.of2 Tryd.func14 rfl rfl fun X w0 => ?_
  obtain ⟨_, la, lc, rfl, _, _⟩ := slice1 hx.liars.1
  repeat (first|refine zJ rfl rfl ?_|refine jr rfl ?_|refine jn ?_|refine zM rfl rfl ?_|(refine zC rfl rfl ?_ rfl ?_;omega)|(refine zD rfl rfl ?_ rfl ?_;omega)|(refine zP rfl ?_ rfl ?_;omega)|refine zG rfl rfl rfl rfl ?_|(refine jdq rfl rfl ?_ ?_ ?_;kernel_rfl;kernel_rfl)|refine zB rfl rfl rfl (by repeat constructor) rfl ?_|refine zH .here rfl rfl rfl rfl ?_|refine zH (.there .here) rfl rfl rfl rfl ?_|refine zH (.there (.there .here)) rfl rfl rfl rfl ?_)
  refine oE (ev_box rfl .agg) rfl ?_; rintro _ _ _ _ ⟨rfl, b2, rfl, rfl⟩
  repeat (first|refine zJ rfl rfl ?_|refine jr rfl ?_|refine jn ?_|refine zM rfl rfl ?_|(refine zC rfl rfl ?_ rfl ?_;omega)|(refine zD rfl rfl ?_ rfl ?_;omega)|(refine zP rfl ?_ rfl ?_;omega)|refine zG rfl rfl rfl rfl ?_|(refine jdq rfl rfl ?_ ?_ ?_;kernel_rfl;kernel_rfl)|refine zB rfl rfl rfl (by repeat constructor) rfl ?_|refine zH .here rfl rfl rfl rfl ?_|refine zH (.there .here) rfl rfl rfl rfl ?_|refine zH (.there (.there .here)) rfl rfl rfl rfl ?_)
  exact J_retv (vs := [.string (strOf []), .int .i64 4]) rfl (.tmp rfl (.tmp rfl .nil)) [] (fun w s => s.drop) (PH.ler _) ⟨rfl, rfl⟩
end Go.Proofs.YtekdmpbkcjjllaaDoor
namespace Go.Proofs.YtekdmpbkcjjllaaDoor
open Go.RowKit
set_option maxRecDepth 100000
theorem splW_first (c : UInt8) (r : W8) : ∀ (l : W8), c ∉ l → splW c (l ++ c :: r) = l :: splW c r
  | [], _ => by simp [splW]
  | b :: l, h => by
    have hb : b ≠ c := fun e => h (by simp [e])
    show splW c (b :: (l ++ c :: r)) = _
    rw [splW, if_neg hb, splW_first c r l (fun e => h (List.mem_cons_of_mem _ e))]
theorem splW_lines : ∀ (Ls : List W8), (∀ l ∈ Ls, 10 ∉ l) → splW 10 (Ls.flatMap fun l => l ++ [10]) = Ls ++ [[]]
  | [], _ => rfl
  | l :: Ls, h => by
    rw [List.flatMap_cons, List.append_assoc]
    show splW 10 (l ++ 10 :: Ls.flatMap fun l => l ++ [10]) = _
    rw [splW_first 10 _ l (h l (by simp)), splW_lines Ls fun m hm => h m (by simp [hm])]
    rfl
theorem no10_words {n : W8} {ws : List W8} (hn : 10 ∉ n) (hw : ∀ w ∈ ws, 10 ∉ w) : 10 ∉ n ++ spW ws := fun h => by
  rcases List.mem_append.1 h with h | h
  · exact hn h
  · unfold spW at h
    obtain ⟨w, h1, h2⟩ := List.mem_flatMap.1 h
    rcases List.mem_cons.1 h2 with h3 | h3
    · exact absurd h3 (by decide)
    · exact hw w h1 h3
theorem dFirst_eq (x : Su) : dFirstB x = firstB x := by
  unfold dFirstB firstB
  rw [spW_app, List.append_assoc]
theorem first_no {F : PH} {x : Su} {vl : Value} (h : SuOk F x vl) : 10 ∉ firstB x := by
  unfold firstB
  refine no10_words (by decide) fun w hw => ?_
  rcases List.mem_append.1 hw with hw | hw
  · exact nums_no (l := [x.f, x.clients]) (by simp only [List.mem_cons, List.not_mem_nil, or_false, forall_eq_or_imp, forall_eq]; exact ⟨h.f, h.clients⟩) (by decide) w hw
  · exact nums_no h.liars.2 (by decide) w hw
theorem first_back {F : PH} {x : Su} {vl : Value} (h : SuOk F x vl) : firstR (splW 32 (firstB x)) = some x := by
  have h1 : ∀ n ∈ (x.f :: x.clients :: x.liars), InI n := by
    intro n hn
    rcases List.mem_cons.1 hn with rfl | hn
    · exact h.f
    rcases List.mem_cons.1 hn with rfl | hn
    · exact h.clients
    · exact h.liars.2 n hn
  unfold firstB
  rw [splW_words _ _ (by decide) (by
    intro w hw
    exact nums_no h1 (by decide) w hw)]
  show (if wCluster = wCluster then firstN (nums (x.f :: x.clients :: x.liars)) else none) = _
  rw [if_pos rfl, firstN_plain, allW_nums h1]
theorem line_no {F : PH} {x : St} {vo vb vt : Value} (hx : StOk F x vo vb vt) (ho : okL x = true) : 10 ∉ lineB x := by
  rw [okL_doc hx] at ho
  unfold docOk at ho
  simp only [Bool.and_eq_true, decide_eq_true_eq, Bool.or_eq_true, Bool.not_eq_true'] at ho
  obtain ⟨hk, _, hw⟩ := ho
  have hw' : withB x = true → letterB x.core.letter = true := fun e => by rcases hw with h | h; rw [e] at h; cases h; exact h
  clear hw
  obtain ⟨kind, who, to, at_, core, orgs, blank, mk1, mf1, body, tags⟩ := x
  dsimp only at hk hw'
  have i1 : InI who := hx.who
  have i2 : InI to := hx.to
  have i3 : InI at_ := hx.at_
  have i4 : CoIn core := hx.core
  have i5 : ∀ n ∈ orgs, InI n := hx.orgs.2
  have i6 : InI mk1 := hx.mk1
  have i7 : InI mf1 := hx.mf1
  have b0 : 0 ≤ blank := hx.b0
  have b1 : blank ≤ 4294967295 := hx.b1
  have ib : InI blank := ⟨by omega, by omega⟩
  clear hx
  obtain rfl | rfl | rfl | rfl | rfl | rfl | rfl | rfl : kind = 1 ∨ kind = 2 ∨ kind = 3 ∨ kind = 4 ∨ kind = 5 ∨ kind = 6 ∨ kind = 7 ∨ kind = 8 := by omega
  · have hno := letter_no (hw' rfl)
    show 10 ∉ wAsk ++ spW (nums [who] ++ coW core ++ nums orgs)
    refine no10_words (by decide) fun w hw => ?_
    simp only [List.mem_append] at hw
    rcases hw with (hw | hw) | hw
    · exact nums_no (l := [who]) (by simpa using i1) (by decide) w hw
    · exact coW_no i4 (by decide) hno.2.1 w hw
    · exact nums_no i5 (by decide) w hw
  · exact no10_words (n := wAgain) (ws := nums [who]) (by decide) (nums_no (l := [who]) (by simpa using i1) (by decide))
  · exact no10_words (n := wDeliver) (ws := nums [at_]) (by decide) (nums_no (l := [at_]) (by simpa using i3) (by decide))
  · exact no10_words (n := wTwice) (ws := nums [at_]) (by decide) (nums_no (l := [at_]) (by simpa using i3) (by decide))
  · exact no10_words (n := wLose) (ws := nums [at_]) (by decide) (nums_no (l := [at_]) (by simpa using i3) (by decide))
  · exact no10_words (n := wTick) (ws := nums [who]) (by decide) (nums_no (l := [who]) (by simpa using i1) (by decide))
  · by_cases h1 : mk1 = 1
    · subst h1
      have hno := letter_no (hw' rfl)
      show 10 ∉ wRequest ++ spW (nums [who, to, blank, core.client] ++ nums [core.stamp] ++ coW core ++ nums orgs)
      refine no10_words (by decide) fun w hw => ?_
      simp only [List.mem_append] at hw
      rcases hw with ((hw | hw) | hw) | hw
      · exact nums_no (l := [who, to, blank, core.client]) (by simp only [List.mem_cons, List.not_mem_nil, or_false, forall_eq_or_imp, forall_eq]; exact ⟨i1, i2, ib, i4.client⟩) (by decide) w hw
      · exact nums_no (l := [core.stamp]) (by simpa using i4.stamp) (by decide) w hw
      · exact coW_no i4 (by decide) hno.2.1 w hw
      · exact nums_no i5 (by decide) w hw
    · have hw9 : lineW ⟨7, who, to, at_, core, orgs, blank, mk1, mf1, body, tags⟩ = some (wLie, nums [who, to, mk1] ++ [hexB body]) := by
        show (if mk1 = 1 then _ else _) = _
        rw [if_neg h1]
      unfold lineB
      rw [hw9]
      refine no10_words (n := wLie) (by decide) fun w hw => ?_
      rcases List.mem_append.1 hw with hw | hw
      · exact nums_no (l := [who, to, mk1]) (by simp only [List.mem_cons, List.not_mem_nil, or_false, forall_eq_or_imp, forall_eq]; exact ⟨i1, i2, i6⟩) (by decide) w hw
      · rw [List.mem_singleton.1 hw]; exact hexB_no (by decide) _
  · show 10 ∉ wForge ++ spW (nums [to, mk1, mf1] ++ [hexB body] ++ tags.map hexB)
    refine no10_words (by decide) fun w hw => ?_
    simp only [List.mem_append] at hw
    rcases hw with (hw | hw) | hw
    · exact nums_no (l := [to, mk1, mf1]) (by simp only [List.mem_cons, List.not_mem_nil, or_false, forall_eq_or_imp, forall_eq]; exact ⟨i2, i6, i7⟩) (by decide) w hw
    · rw [List.mem_singleton.1 hw]; exact hexB_no (by decide) _
    · obtain ⟨t, _, rfl⟩ := List.mem_map.1 hw
      exact hexB_no (by decide) _
theorem allOk_all : ∀ {L : List St}, allOk L = true → ∀ x ∈ L, okL x = true
  | [], _, x, hx => by cases hx
  | y :: L, h, x, hx => by
    have h1 : (okL y && allOk L) = true := h
    rw [Bool.and_eq_true] at h1
    rcases List.mem_cons.1 hx with rfl | hx
    · exact h1.1
    · exact allOk_all h1.2 x hx
theorem lines_back : ∀ {L : List St}, (∀ x ∈ L, okL x = true) → parseAll (L.map lineB) = some L
  | [], _ => rfl
  | x :: L, h => by
    have hp : parseP (splW 32 (lineB x)) = some x := by
      have ho := h x (by simp)
      unfold okL at ho
      cases hp : parseP (splW 32 (lineB x)) with
      | none => rw [hp] at ho; cases ho
      | some y => rw [hp] at ho; rw [(sameB_iff x y).1 ho]
    rw [List.map_cons, parseAll_cons, hp, lines_back fun y hy => h y (by simp [hy])]
    rfl
theorem printB_lines (su : Su) (L : List St) : printB su L = (firstB su :: L.map lineB).flatMap fun l => l ++ [10] := by
  unfold printB linesB
  rw [List.flatMap_cons, List.flatMap_map]
theorem script_back {F : PH} {su : Su} {vl : Value} {L : List St} (hs : SuOk F su vl) (hL : ∀ x ∈ L, okL x = true ∧ ∃ vo vb vt, StOk F x vo vb vt) : parseT (printB su L) = some (su, L) := by
  have hsp : splW 10 (printB su L) = (firstB su :: L.map lineB) ++ [[]] := by
    rw [printB_lines]
    refine splW_lines _ fun l hl => ?_
    rcases List.mem_cons.1 hl with rfl | hl
    · exact first_no hs
    · obtain ⟨x, hx, rfl⟩ := List.mem_map.1 hl
      obtain ⟨h1, vo, vb, vt, h2⟩ := hL x hx
      exact line_no h2 h1
  unfold parseT
  rw [hsp, if_pos ⟨by simp, by rw [List.getLast?_append]; rfl⟩]
  show (firstR (splW 32 (firstB su))).bind (fun x => (parseAll ((L.map lineB ++ [[]]).dropLast)).map fun l => (x, l)) = _
  rw [first_back hs, List.dropLast_concat, lines_back fun x hx => (hL x hx).1]
  rfl
theorem lineB_len3 {F : PH} {x : St} {vo vb vt : Value} (hx : StOk F x vo vb vt) (hf : FewSt x) : (lineB x).length ≤ 3000 := by
  have f1 := hf.letter
  have f2 := hf.text
  have f3 := hf.orgs
  have f4 := hf.body
  have f5 := hf.tags
  have hc := coW_len hx.core f1 f2
  have ho := spW_nums_len hx.orgs.2
  have hh := hexs_len x.tags hx.tags.2
  have hb := hexB_len x.body
  have i1 := itoa_len hx.who
  have i2 := itoa_len hx.to
  have i3 := itoa_len hx.at_
  have i4 := itoa_len hx.mk1
  have i5 := itoa_len hx.mf1
  have i6 := itoa_len hx.core.client
  have i7 := itoa_len hx.core.stamp
  have i8 := itoa_len (n := x.blank) ⟨by have := hx.b0; omega, by have := hx.b1; omega⟩
  have e1 : ∀ (a b : List W8), (spW (a ++ b)).length = (spW a).length + (spW b).length := fun a b => by rw [spW_app, List.length_append]
  unfold lineB lineW
  cases hn : nameK x.kind with
  | some nm =>
    have := (nameK_ne hn).2.1
    show (nm ++ spW (nums [if whoK x.kind = true then x.who else x.at_])).length ≤ 3000
    cases whoK x.kind <;> simp [spW, nums] <;> omega
  | none =>
    dsimp only
    by_cases k1 : x.kind = 1
    · rw [if_pos k1]
      dsimp only
      rw [List.length_append, e1, e1]
      simp only [spW, nums, List.map_cons, List.map_nil, List.flatMap_cons, List.flatMap_nil, List.append_nil, List.length_cons, List.length_append, List.length_nil, wAsk, wRequest, wLie, wForge] at *
      omega
    rw [if_neg k1]
    by_cases k7 : x.kind = 7
    · rw [if_pos k7]
      by_cases m1 : x.mk1 = 1
      · rw [if_pos m1]
        dsimp only
        rw [List.length_append, e1, e1, e1]
        simp only [spW, nums, List.map_cons, List.map_nil, List.flatMap_cons, List.flatMap_nil, List.append_nil, List.length_cons, List.length_append, List.length_nil, wAsk, wRequest, wLie, wForge] at *
        omega
      · rw [if_neg m1]
        dsimp only
        rw [List.length_append, e1]
        simp only [spW, nums, List.map_cons, List.map_nil, List.flatMap_cons, List.flatMap_nil, List.append_nil, List.length_cons, List.length_append, List.length_nil, wAsk, wRequest, wLie, wForge] at *
        omega
    rw [if_neg k7]
    by_cases k8 : x.kind = 8
    · rw [if_pos k8]
      dsimp only
      rw [List.length_append, e1, e1]
      simp only [spW, nums, List.map_cons, List.map_nil, List.flatMap_cons, List.flatMap_nil, List.append_nil, List.length_cons, List.length_append, List.length_nil, wAsk, wRequest, wLie, wForge] at *
      omega
    · rw [if_neg k8]
      simp
theorem linesB_len {L : List St} (h : ∀ x ∈ L, (lineB x).length ≤ 3000) : (linesB L).length ≤ 3001 * L.length := by
  induction L with
  | nil => simp [linesB]
  | cons x L ih =>
    have h1 := ih fun y hy => h y (by simp [hy])
    have h2 := h x (by simp)
    unfold linesB at h1 ⊢
    rw [List.flatMap_cons, List.length_append, List.length_append, List.length_singleton, List.length_cons]
    omega
theorem script_lines {F : PH} {su : Su} {vl : Value} {L : List St} (hs : SuOk F su vl) (hL : ∀ x ∈ L, okL x = true ∧ ∃ vo vb vt, StOk F x vo vb vt) : splW 10 (printB su L) = (firstB su :: L.map lineB) ++ [[]] := by
  rw [printB_lines]
  refine splW_lines _ fun l hl => ?_
  rcases List.mem_cons.1 hl with rfl | hl
  · exact first_no hs
  · obtain ⟨x, hx, rfl⟩ := List.mem_map.1 hl
    obtain ⟨h1, vo, vb, vt, h2⟩ := hL x hx
    exact line_no h2 h1
theorem script_cnt {F : PH} {su : Su} {vl : Value} {L : List St} (hs : SuOk F su vl) (hL : ∀ x ∈ L, okL x = true ∧ ∃ vo vb vt, StOk F x vo vb vt) : (printB su L).count 10 = L.length + 1 := by
  have h1 := splW_len 10 (printB su L)
  rw [script_lines hs hL] at h1
  simp at h1
  omega
theorem allOk_of : ∀ {L : List St}, (∀ x ∈ L, okL x = true) → allOk L = true
  | [], _ => rfl
  | y :: L, h => by
    show (okL y && allOk L) = true
    rw [h y (by simp), allOk_of fun x hx => h x (by simp [hx])]
    rfl
end Go.Proofs.YtekdmpbkcjjllaaDoor
namespace Go.Proofs.YtekdmpbkcjjllaaDoor
open Go.RowKit
set_option maxRecDepth 100000
def sSu : Ty Tryd.prog 41 (Int × List Int × Int × Unit) := tyStruct Tryd.underlying41 (fsCons sN (fsCons sNs (fsCons sN (fsNil _) rfl (by kernel_rfl)) rfl (by kernel_rfl)) rfl (by kernel_rfl)) (by kernel_rfl)
theorem setup_of {F : PH} {x : Int × List Int × Int × Unit} {cs : List Value} (h : sSu.rep F x cs) : ∃ (y : Su) (vl : Value), cs = suC y vl ∧ SuOk F y vl := by
  obtain ⟨_, _, rfl, ⟨rfl, k1⟩, _, _, rfl, ⟨vl, rfl, hl⟩, _, _, rfl, ⟨rfl, k2⟩, rfl⟩ := h
  exact ⟨⟨x.1, x.2.1, x.2.2.1⟩, vl, rfl, ⟨ini_of k1, ini_of k2, nums_of hl⟩⟩
theorem row_of {F : PH} {v : Value} {xs : List StX} (h : RowV sSt F v xs) : ∃ L : List St, StRowW F v L := by
  obtain ⟨css, h1, h2⟩ := h
  have key : ∃ L : List St, L.length = xs.length ∧ All2 (fun y c => ∃ vo vb vt, c = stC y vo vb vt ∧ StOk F y vo vb vt) L css := by
    clear h1
    induction h2 with
    | nil => exact ⟨[], rfl, .nil⟩
    | cons h t ih =>
      obtain ⟨L, hl, ha⟩ := ih
      obtain ⟨y, vo, vb, vt, e, hy⟩ := step_of h
      exact ⟨y :: L, by simp [hl], .cons ⟨vo, vb, vt, e, hy⟩ ha⟩
  obtain ⟨L, hl, ha⟩ := key
  exact ⟨L, css, by rw [hl]; exact h1, ha⟩
set_option maxHeartbeats 64000000 in
theorem ScriptBack_walk (su : Su) (vl : Value) (a : Option Addr) (c : Nat) (L : List St) (m : Int) (F : PH) (hF : LibF F) (hx : SuOk F su vl) (hL : StRowW F (.slice a L.length c) L) (hm0 : 0 ≤ m) (hm1 : m ≤ 255) : Pure Tryd.prog 5 [.agg (suC su vl).toArray, .slice a L.length c, .int .u8 m] F (.bool true) := by
  obtain ⟨la, lc, rfl, _, _⟩ := hx.liars.at1
  have hat := hL.cells.2
  have hac : L.length ≤ c := by obtain ⟨_, ⟨_, _, _, e, h, _⟩, _⟩ := id hL; cases e; exact h
  refine Spec.of3 Tryd.func5 rfl rfl fun X w0 => ?_
  repeat (first|refine zJ rfl rfl ?_|refine jr rfl ?_|refine jn ?_|refine zM rfl rfl ?_|(refine zC rfl rfl ?_ rfl ?_;omega)|(refine zD rfl rfl ?_ rfl ?_;omega)|(refine zP rfl ?_ rfl ?_;omega)|refine zG rfl rfl rfl rfl ?_|(refine jdq rfl rfl ?_ ?_ ?_;kernel_rfl;kernel_rfl)|refine zB rfl rfl rfl (by repeat constructor) rfl ?_|refine zH .here rfl rfl rfl rfl ?_|refine zH (.there .here) rfl rfl rfl rfl ?_|refine zH (.there (.there .here)) rfl rfl rfl rfl ?_)
  refine oE (ev_box rfl .agg) rfl ?_; rintro _ _ _ _ ⟨rfl, b3, rfl, rfl⟩
  repeat (first|refine zJ rfl rfl ?_|refine jr rfl ?_|refine jn ?_|refine zM rfl rfl ?_|(refine zC rfl rfl ?_ rfl ?_;omega)|(refine zD rfl rfl ?_ rfl ?_;omega)|(refine zP rfl ?_ rfl ?_;omega)|refine zG rfl rfl rfl rfl ?_|(refine jdq rfl rfl ?_ ?_ ?_;kernel_rfl;kernel_rfl)|refine zB rfl rfl rfl (by repeat constructor) rfl ?_|refine zH .here rfl rfl rfl rfl ?_|refine zH (.there .here) rfl rfl rfl rfl ?_|refine zH (.there (.there .here)) rfl rfl rfl rfl ?_)
  refine oC (Hc := []) (Hr := blk b3 41 (suC su (.slice la su.liars.length lc)) :: X) (fixed_spec F hF) Tryd.call6 rfl rfl (fun _ s => s) ?_
  rintro _ F1 _ hF1 ⟨rfl, rfl⟩
  by_cases h50 : 50 < su.liars.length
  · repeat (first|refine zJ rfl rfl ?_|refine jr rfl ?_|refine jn ?_|refine zM rfl rfl ?_|(refine zC rfl rfl ?_ rfl ?_;omega)|(refine zD rfl rfl ?_ rfl ?_;omega)|(refine zP rfl ?_ rfl ?_;omega)|refine zG rfl rfl rfl rfl ?_|(refine jdq rfl rfl ?_ ?_ ?_;kernel_rfl;kernel_rfl)|refine zB rfl rfl rfl (by repeat constructor) rfl ?_|refine zH .here rfl rfl rfl rfl ?_|refine zH (.there .here) rfl rfl rfl rfl ?_|refine zH (.there (.there .here)) rfl rfl rfl rfl ?_)
    exact J_retv rfl (.tmp rfl .nil) [] (fun w s => s.drop) hF1 ⟨rfl, rfl⟩
  by_cases h60 : 60 < L.length
  · repeat (first|refine zJ rfl rfl ?_|refine jr rfl ?_|refine jn ?_|refine zM rfl rfl ?_|(refine zC rfl rfl ?_ rfl ?_;omega)|(refine zD rfl rfl ?_ rfl ?_;omega)|(refine zP rfl ?_ rfl ?_;omega)|refine zG rfl rfl rfl rfl ?_|(refine jdq rfl rfl ?_ ?_ ?_;kernel_rfl;kernel_rfl)|refine zB rfl rfl rfl (by repeat constructor) rfl ?_|refine zH .here rfl rfl rfl rfl ?_|refine zH (.there .here) rfl rfl rfl rfl ?_|refine zH (.there (.there .here)) rfl rfl rfl rfl ?_)
    exact J_retv rfl (.tmp rfl .nil) [] (fun w s => s.drop) hF1 ⟨rfl, rfl⟩
  have hfl := firstB_len hx
  repeat (first|refine zJ rfl rfl ?_|refine jr rfl ?_|refine jn ?_|refine zM rfl rfl ?_|(refine zC rfl rfl ?_ rfl ?_;omega)|(refine zD rfl rfl ?_ rfl ?_;omega)|(refine zP rfl ?_ rfl ?_;omega)|refine zG rfl rfl rfl rfl ?_|(refine jdq rfl rfl ?_ ?_ ?_;kernel_rfl;kernel_rfl)|refine zB rfl rfl rfl (by repeat constructor) rfl ?_|refine zH .here rfl rfl rfl rfl ?_|refine zH (.there .here) rfl rfl rfl rfl ?_|refine zH (.there (.there .here)) rfl rfl rfl rfl ?_)
  refine oS (ev_load_agg (cs := suC su (.slice la su.liars.length lc)) rfl rfl (Rdb.ofB (n := 0) .here rfl) rfl) rfl ?_
  refine oP (dfirst_spec su _ F1 (hx.mono hF1) (by omega)) Tryd.call13 rfl rfl ?_
  rw [dFirst_eq]
  refine oS (ev_cat (b := [10]) rfl rfl (by simp; omega)) rfl ?_
  repeat (first|refine zJ rfl rfl ?_|refine jr rfl ?_|refine jn ?_|refine zM rfl rfl ?_|(refine zC rfl rfl ?_ rfl ?_;omega)|(refine zD rfl rfl ?_ rfl ?_;omega)|(refine zP rfl ?_ rfl ?_;omega)|refine zG rfl rfl rfl rfl ?_|(refine jdq rfl rfl ?_ ?_ ?_;kernel_rfl;kernel_rfl)|refine zB rfl rfl rfl (by repeat constructor) rfl ?_|refine zH .here rfl rfl rfl rfl ?_|refine zH (.there .here) rfl rfl rfl rfl ?_|refine zH (.there (.there .here)) rfl rfl rfl rfl ?_)
  refine J_loop (ι := Nat × PH) (fun p => p.1 ≤ L.length ∧ F1.le p.2 ∧ ∀ j x, j < p.1 → L[j]? = some x → FewSt x ∧ okL x = true) (fun p => L.length - p.1) (fun p => [(1, .slice a L.length c), (2, .int .u8 m), (3, .pointer (some ⟨b3, 0, none⟩)), (7, .string (strOf (firstB su ++ [10] ++ linesB (L.take p.1)))), (36, .slice a L.length c), (37, .int .i64 L.length), (38, .int .i64 p.1)]) (fun p => p.2) (fun _ => blk b3 41 (suC su (.slice la su.liars.length lc)) :: X) (0, F1) ⟨Nat.zero_le _, PH.ler _, fun j _ h => absurd h (Nat.not_lt_zero j)⟩ ⟨⟨rfl, rfl, rfl, by simp [linesB]; rfl, rfl, rfl, rfl, trivial⟩, fun w s => s⟩ ?_
  rintro ⟨i, G⟩ ⟨hi, hG, hok⟩
  dsimp only at *
  have hleG := hF1.trans hG
  have hokm : ∀ x ∈ L.take i, FewSt x ∧ okL x = true := fun x hx => by
    obtain ⟨j, hj⟩ := List.mem_iff_getElem?.1 hx
    rw [List.getElem?_take] at hj
    split at hj
    · rename_i h; exact hok j x h hj
    · cases hj
  have hstk : ∀ x ∈ L, ∃ vo vb vt, StOk F x vo vb vt := fun x hx => by
    obtain ⟨j, hj⟩ := List.mem_iff_getElem?.1 hx
    obtain ⟨_, _, vo, vb, vt, _, _, h⟩ := hat j x hj
    exact ⟨vo, vb, vt, h⟩
  have hll : (linesB (L.take i)).length ≤ 3001 * i := by
    have := linesB_len (L := L.take i) fun x hx => by
      obtain ⟨vo, vb, vt, h⟩ := hstk x (List.mem_of_mem_take hx)
      exact lineB_len3 h (hokm x hx).1
    rw [List.length_take, Nat.min_eq_left hi] at this
    exact this
  by_cases hlt : i < L.length
  · obtain ⟨x, hxi⟩ : ∃ x, L[i]? = some x := ⟨_, List.getElem?_eq_getElem hlt⟩
    obtain ⟨p1, o1, vo, vb, vt, rfl, hxc, hxs⟩ := hat i x hxi
    have hones := hxs.ones
    repeat (first|refine zJ rfl rfl ?_|refine jr rfl ?_|refine jn ?_|refine zM rfl rfl ?_|(refine zC rfl rfl ?_ rfl ?_;omega)|(refine zD rfl rfl ?_ rfl ?_;omega)|(refine zP rfl ?_ rfl ?_;omega)|refine zG rfl rfl rfl rfl ?_|(refine jdq rfl rfl ?_ ?_ ?_;kernel_rfl;kernel_rfl)|refine zB rfl rfl rfl (by repeat constructor) rfl ?_|refine zH .here rfl rfl rfl rfl ?_|refine zH (.there .here) rfl rfl rfl rfl ?_|refine zH (.there (.there .here)) rfl rfl rfl rfl ?_)
    refine oS (ev_indexAddr rfl rfl rfl hlt) rfl ?_
    refine oS (ev_load_agg (cs := stC x vo vb vt) rfl rfl (Rdb.ofF (hxc.mono hleG)) rfl) rfl ?_
    refine oE (ev_alloc (cs := zStC) rfl) rfl ?_
    rintro _ _ _ _ ⟨rfl, b9, rfl, rfl⟩
    refine oN (ev_store (vs := stC x vo vb vt) rfl rfl .agg rfl rfl (lay_all (zs := zStC) rfl) hones .here) rfl ?_
    rintro _ _ _ _ ⟨rfl, _, rfl⟩
    repeat (first|refine zJ rfl rfl ?_|refine jr rfl ?_|refine jn ?_|refine zM rfl rfl ?_|(refine zC rfl rfl ?_ rfl ?_;omega)|(refine zD rfl rfl ?_ rfl ?_;omega)|(refine zP rfl ?_ rfl ?_;omega)|refine zG rfl rfl rfl rfl ?_|(refine jdq rfl rfl ?_ ?_ ?_;kernel_rfl;kernel_rfl)|refine zB rfl rfl rfl (by repeat constructor) rfl ?_|refine zH .here rfl rfl rfl rfl ?_|refine zH (.there .here) rfl rfl rfl rfl ?_|refine zH (.there (.there .here)) rfl rfl rfl rfl ?_)
    refine oS (ev_load_agg (cs := stC x vo vb vt) rfl rfl (Rdb.ofB (n := 0) .here rfl) rfl) rfl ?_
    refine oP (few_spec x vo vb vt G (hxs.mono hleG)) Tryd.call7 rfl rfl ?_
    by_cases hfew : x.core.letter.length ≤ 100 ∧ x.core.text.length ≤ 300 ∧ x.orgs.length ≤ 20 ∧ x.body.length ≤ 500 ∧ x.tags.length ≤ 10
    rotate_left
    · rw [decide_eq_false hfew]
      repeat (first|refine zJ rfl rfl ?_|refine jr rfl ?_|refine jn ?_|refine zM rfl rfl ?_|(refine zC rfl rfl ?_ rfl ?_;omega)|(refine zD rfl rfl ?_ rfl ?_;omega)|(refine zP rfl ?_ rfl ?_;omega)|refine zG rfl rfl rfl rfl ?_|(refine jdq rfl rfl ?_ ?_ ?_;kernel_rfl;kernel_rfl)|refine zB rfl rfl rfl (by repeat constructor) rfl ?_|refine zH .here rfl rfl rfl rfl ?_|refine zH (.there .here) rfl rfl rfl rfl ?_|refine zH (.there (.there .here)) rfl rfl rfl rfl ?_)
      exact J_retv rfl (.tmp rfl .nil) [] (fun w s => s.drop.drop) hleG ⟨rfl, rfl⟩
    rw [decide_eq_true hfew]
    have hf : FewSt x := ⟨hfew.1, hfew.2.1, hfew.2.2.1, hfew.2.2.2.1, hfew.2.2.2.2⟩
    have hxl := lineB_len3 hxs hf
    repeat (first|refine zJ rfl rfl ?_|refine jr rfl ?_|refine jn ?_|refine zM rfl rfl ?_|(refine zC rfl rfl ?_ rfl ?_;omega)|(refine zD rfl rfl ?_ rfl ?_;omega)|(refine zP rfl ?_ rfl ?_;omega)|refine zG rfl rfl rfl rfl ?_|(refine jdq rfl rfl ?_ ?_ ?_;kernel_rfl;kernel_rfl)|refine zB rfl rfl rfl (by repeat constructor) rfl ?_|refine zH .here rfl rfl rfl rfl ?_|refine zH (.there .here) rfl rfl rfl rfl ?_|refine zH (.there (.there .here)) rfl rfl rfl rfl ?_)
    refine oS (ev_load_agg (cs := stC x vo vb vt) rfl rfl (Rdb.ofB (n := 0) .here rfl) rfl) rfl ?_
    refine oC (Hc := []) (Hr := blk b9 31 (stC x vo vb vt) :: blk b3 41 (suC su (.slice la su.liars.length lc)) :: X) (dline_spec x vo vb vt G (hxs.mono hleG) hf) Tryd.call9 rfl rfl (fun _ s => s) ?_
    rintro _ G1 _ hG1 ⟨rfl, rfl⟩
    rw [← okL_doc hxs]
    cases ho : okL x with
    | false =>
      simp only [Bool.false_eq_true, if_false]
      have hfr : FewRow L := fun k y hk hao => by
        rcases Nat.lt_or_ge k i with h | h
        · exact (hok k y h hk).1
        rcases Nat.lt_or_ge i k with h2 | h2
        · have h3 := allOk_bad (L.take k) i x (by rw [List.getElem?_take, if_pos h2]; exact hxi) ho
          rw [h3] at hao
          cases hao
        · obtain rfl : k = i := by omega
          rw [hxi] at hk
          cases hk
          exact hf
      have hpr := print_spec su _ (some ⟨p1, o1, none⟩) c L G1 (hF.mono (hleG.trans hG1)) (hx.mono (hleG.trans hG1)) (by omega) (hL.mono (hleG.trans hG1)) (by omega) hfr
      rw [allOk_bad L i x hxi ho] at hpr
      simp only [Bool.false_eq_true, if_false] at hpr
      repeat (first|refine zJ rfl rfl ?_|refine jr rfl ?_|refine jn ?_|refine zM rfl rfl ?_|(refine zC rfl rfl ?_ rfl ?_;omega)|(refine zD rfl rfl ?_ rfl ?_;omega)|(refine zP rfl ?_ rfl ?_;omega)|refine zG rfl rfl rfl rfl ?_|(refine jdq rfl rfl ?_ ?_ ?_;kernel_rfl;kernel_rfl)|refine zB rfl rfl rfl (by repeat constructor) rfl ?_|refine zH .here rfl rfl rfl rfl ?_|refine zH (.there .here) rfl rfl rfl rfl ?_|refine zH (.there (.there .here)) rfl rfl rfl rfl ?_)
      refine oS (ev_load_agg (cs := suC su (.slice la su.liars.length lc)) rfl rfl (Rdb.ofB (n := 0) (.there .here) rfl) rfl) rfl ?_
      repeat (first|refine zJ rfl rfl ?_|refine jr rfl ?_|refine jn ?_|refine zM rfl rfl ?_|(refine zC rfl rfl ?_ rfl ?_;omega)|(refine zD rfl rfl ?_ rfl ?_;omega)|(refine zP rfl ?_ rfl ?_;omega)|refine zG rfl rfl rfl rfl ?_|(refine jdq rfl rfl ?_ ?_ ?_;kernel_rfl;kernel_rfl)|refine zB rfl rfl rfl (by repeat constructor) rfl ?_|refine zH .here rfl rfl rfl rfl ?_|refine zH (.there .here) rfl rfl rfl rfl ?_|refine zH (.there (.there .here)) rfl rfl rfl rfl ?_)
      refine oC (Hc := []) (Hr := blk b9 31 (stC x vo vb vt) :: blk b3 41 (suC su (.slice la su.liars.length lc)) :: X) hpr Tryd.call14 rfl rfl (fun _ s => s) ?_
      rintro _ G2 _ hG2 ⟨rfl, rfl⟩
      repeat (first|refine zJ rfl rfl ?_|refine jr rfl ?_|refine jn ?_|refine zM rfl rfl ?_|(refine zC rfl rfl ?_ rfl ?_;omega)|(refine zD rfl rfl ?_ rfl ?_;omega)|(refine zP rfl ?_ rfl ?_;omega)|refine zG rfl rfl rfl rfl ?_|(refine jdq rfl rfl ?_ ?_ ?_;kernel_rfl;kernel_rfl)|refine zB rfl rfl rfl (by repeat constructor) rfl ?_|refine zH .here rfl rfl rfl rfl ?_|refine zH (.there .here) rfl rfl rfl rfl ?_|refine zH (.there (.there .here)) rfl rfl rfl rfl ?_)
      exact J_retv (vs := [.bool true]) rfl (.tmp rfl .nil) [] (fun w s => s.drop.drop) (hleG.trans (hG1.trans hG2)) ⟨rfl, rfl⟩
    | true =>
      simp only [if_true]
      have hsn : firstB su ++ [10] ++ linesB (L.take (i + 1)) = (firstB su ++ [10] ++ linesB (L.take i)) ++ (lineB x ++ [10]) := by
        rw [List.take_add_one, hxi, Option.toList_some, linesB_snoc, ← List.append_assoc]
      repeat (first|refine zJ rfl rfl ?_|refine jr rfl ?_|refine jn ?_|refine zM rfl rfl ?_|(refine zC rfl rfl ?_ rfl ?_;omega)|(refine zD rfl rfl ?_ rfl ?_;omega)|(refine zP rfl ?_ rfl ?_;omega)|refine zG rfl rfl rfl rfl ?_|(refine jdq rfl rfl ?_ ?_ ?_;kernel_rfl;kernel_rfl)|refine zB rfl rfl rfl (by repeat constructor) rfl ?_|refine zH .here rfl rfl rfl rfl ?_|refine zH (.there .here) rfl rfl rfl rfl ?_|refine zH (.there (.there .here)) rfl rfl rfl rfl ?_)
      refine oS (ev_cat (b := [10]) rfl rfl (by simp; omega)) rfl ?_
      refine oS (ev_cat rfl rfl (by simp; omega)) rfl ?_
      repeat (first|refine zJ rfl rfl ?_|refine jr rfl ?_|refine jn ?_|refine zM rfl rfl ?_|(refine zC rfl rfl ?_ rfl ?_;omega)|(refine zD rfl rfl ?_ rfl ?_;omega)|(refine zP rfl ?_ rfl ?_;omega)|refine zG rfl rfl rfl rfl ?_|(refine jdq rfl rfl ?_ ?_ ?_;kernel_rfl;kernel_rfl)|refine zB rfl rfl rfl (by repeat constructor) rfl ?_|refine zH .here rfl rfl rfl rfl ?_|refine zH (.there .here) rfl rfl rfl rfl ?_|refine zH (.there (.there .here)) rfl rfl rfl rfl ?_)
      refine J_again (ι := Nat × PH) (i + 1, G1) ⟨hlt, hG.trans hG1, fun j y hj hy => ?_⟩ (by dsimp only; omega) ⟨⟨rfl, rfl, rfl, congrArg (fun z => some (Value.string (strOf z))) hsn.symm, rfl, rfl, rfl, trivial⟩, fun w s => s.drop⟩
      rcases Nat.lt_succ_iff_lt_or_eq.1 hj with h | rfl
      · exact hok j y h hy
      · rw [hxi] at hy
        cases hy
        exact ⟨hf, ho⟩
  · obtain rfl : i = L.length := by omega
    rw [List.take_length] at hokm hll ⊢
    have hall : allOk L = true := allOk_of fun x hx => (hokm x hx).2
    have hpb : firstB su ++ [10] ++ linesB L = printB su L := rfl
    rw [hpb]
    have hboth : ∀ x ∈ L, okL x = true ∧ ∃ vo vb vt, StOk F x vo vb vt := fun x hx => ⟨(hokm x hx).2, hstk x hx⟩
    have hback := script_back hx hboth
    have hcnt := script_cnt hx hboth
    have hpl : (printB su L).length ≤ 200000 := by unfold printB; rw [List.length_append, List.length_append, List.length_singleton]; omega
    have hfr : FewRow L := fun k y hk _ => (hokm y (List.mem_of_getElem? hk)).1
    have hpr := print_spec su _ a c L G (hF.mono hleG) (hx.mono hleG) (by omega) (hL.mono hleG) (by omega) hfr
    rw [hall, if_pos rfl] at hpr
    repeat (first|refine zJ rfl rfl ?_|refine jr rfl ?_|refine jn ?_|refine zM rfl rfl ?_|(refine zC rfl rfl ?_ rfl ?_;omega)|(refine zD rfl rfl ?_ rfl ?_;omega)|(refine zP rfl ?_ rfl ?_;omega)|refine zG rfl rfl rfl rfl ?_|(refine jdq rfl rfl ?_ ?_ ?_;kernel_rfl;kernel_rfl)|refine zB rfl rfl rfl (by repeat constructor) rfl ?_|refine zH .here rfl rfl rfl rfl ?_|refine zH (.there .here) rfl rfl rfl rfl ?_|refine zH (.there (.there .here)) rfl rfl rfl rfl ?_)
    refine oS (ev_load_agg (cs := suC su (.slice la su.liars.length lc)) rfl rfl (Rdb.ofB (n := 0) .here rfl) rfl) rfl ?_
    repeat (first|refine zJ rfl rfl ?_|refine jr rfl ?_|refine jn ?_|refine zM rfl rfl ?_|(refine zC rfl rfl ?_ rfl ?_;omega)|(refine zD rfl rfl ?_ rfl ?_;omega)|(refine zP rfl ?_ rfl ?_;omega)|refine zG rfl rfl rfl rfl ?_|(refine jdq rfl rfl ?_ ?_ ?_;kernel_rfl;kernel_rfl)|refine zB rfl rfl rfl (by repeat constructor) rfl ?_|refine zH .here rfl rfl rfl rfl ?_|refine zH (.there .here) rfl rfl rfl rfl ?_|refine zH (.there (.there .here)) rfl rfl rfl rfl ?_)
    refine oC (Hc := []) (Hr := blk b3 41 (suC su (.slice la su.liars.length lc)) :: X) hpr Tryd.call14 rfl rfl (fun _ s => s) ?_
    rintro _ G1 _ hG1 ⟨rfl, rfl⟩
    have hle1 := hleG.trans hG1
    repeat (first|refine zJ rfl rfl ?_|refine jr rfl ?_|refine jn ?_|refine zM rfl rfl ?_|(refine zC rfl rfl ?_ rfl ?_;omega)|(refine zD rfl rfl ?_ rfl ?_;omega)|(refine zP rfl ?_ rfl ?_;omega)|refine zG rfl rfl rfl rfl ?_|(refine jdq rfl rfl ?_ ?_ ?_;kernel_rfl;kernel_rfl)|refine zB rfl rfl rfl (by repeat constructor) rfl ?_|refine zH .here rfl rfl rfl rfl ?_|refine zH (.there .here) rfl rfl rfl rfl ?_|refine zH (.there (.there .here)) rfl rfl rfl rfl ?_)
    refine oC (Hc := []) (Hr := blk b3 41 (suC su (.slice la su.liars.length lc)) :: X) (parse_spec (printB su L) (by omega) G1 (hF.mono hle1)) Tryd.call15 rfl rfl (fun _ s => s) ?_
    rintro _ G2 _ hG2 ⟨rfl, su2, vl2, L2, vs, e, rfl, hsu2, hrow2, hcase⟩
    have hle2 := hle1.trans hG2
    have hres : su2 = su ∧ L2 = L ∧ e = 0 := by
      rcases hcase with ⟨h, _⟩ | ⟨_, h, _⟩ | ⟨_, _, h⟩
      · omega
      · omega
      rw [hback] at h
      rcases h with ⟨h, _⟩ | ⟨h, he⟩
      · cases h
      · have := Option.some.inj h
        exact ⟨(congrArg Prod.fst this).symm, (congrArg Prod.snd this).symm, he⟩
    obtain ⟨rfl, rfl, rfl⟩ := hres
    clear hcase
    obtain ⟨la2, lc2, rfl, _, _⟩ := hsu2.liars.at1
    obtain ⟨css2, ⟨_, sa, sc, rfl, _, _⟩, _⟩ := id hrow2
    have hat2 := hrow2.cells.2
    have hss := dsetup_spec su2 su2 _ _ G2 (hx.mono hle2) hsu2 (by omega) (by omega)
    rw [decide_eq_true rfl] at hss
    repeat (first|refine zJ rfl rfl ?_|refine jr rfl ?_|refine jn ?_|refine zM rfl rfl ?_|(refine zC rfl rfl ?_ rfl ?_;omega)|(refine zD rfl rfl ?_ rfl ?_;omega)|(refine zP rfl ?_ rfl ?_;omega)|refine zG rfl rfl rfl rfl ?_|(refine jdq rfl rfl ?_ ?_ ?_;kernel_rfl;kernel_rfl)|refine zB rfl rfl rfl (by repeat constructor) rfl ?_|refine zH .here rfl rfl rfl rfl ?_|refine zH (.there .here) rfl rfl rfl rfl ?_|refine zH (.there (.there .here)) rfl rfl rfl rfl ?_)
    refine oE (ev_alloc (cs := suC zSu nl) rfl) rfl ?_
    rintro _ _ _ _ ⟨rfl, b16, rfl, rfl⟩
    refine oN (ev_store (vs := suC su2 (.slice la2 su2.liars.length lc2)) rfl rfl .agg rfl rfl (lay_all (zs := suC zSu nl) rfl) (by unfold suC; (repeat (first | exact ones_nil | refine ones_cons rfl ?_))) .here) rfl ?_
    rintro _ _ _ _ ⟨rfl, _, rfl⟩
    repeat (first|refine zJ rfl rfl ?_|refine jr rfl ?_|refine jn ?_|refine zM rfl rfl ?_|(refine zC rfl rfl ?_ rfl ?_;omega)|(refine zD rfl rfl ?_ rfl ?_;omega)|(refine zP rfl ?_ rfl ?_;omega)|refine zG rfl rfl rfl rfl ?_|(refine jdq rfl rfl ?_ ?_ ?_;kernel_rfl;kernel_rfl)|refine zB rfl rfl rfl (by repeat constructor) rfl ?_|refine zH .here rfl rfl rfl rfl ?_|refine zH (.there .here) rfl rfl rfl rfl ?_|refine zH (.there (.there .here)) rfl rfl rfl rfl ?_)
    have hle2' := hle2
    have hp1 := pfirst_spec su2 _ G2 (hF.mono hle2).tab (hx.mono hle2) (by omega)
    refine ja G2 [blk b16 41 (suC su2 (.slice la2 su2.liars.length lc2)), blk b3 41 (suC su2 (.slice la su2.liars.length lc))] ?_ ?_ ?_; kernel_rfl
    · exact fun w s => Sat.left (A := [_, _]) s
    refine aT 0 rfl (ev_qe rfl) rfl rfl ?_ ?_ ?_ ?_; kernel_rfl; kernel_rfl; kernel_rfl
    refine aT 1 rfl (ev_qe rfl) rfl rfl ?_ ?_ ?_ ?_; kernel_rfl; kernel_rfl; kernel_rfl
    refine aT 2 rfl (ev_sneq (bs := printB su2 L2) (cs := printB su2 L2) (r := false) rfl rfl (by simp)) rfl rfl ?_ ?_ ?_ ?_; kernel_rfl; kernel_rfl; kernel_rfl
    refine aT 3 rfl (ev_qe rfl) rfl rfl ?_ ?_ ?_ ?_; kernel_rfl; kernel_rfl; kernel_rfl
    refine aT 4 rfl (ev_qe rfl) rfl rfl ?_ ?_ ?_ ?_; kernel_rfl; kernel_rfl; kernel_rfl
    refine aT 5 rfl (ev_cmp_f (op := .neq) (m := 0) (n := 0) rfl rfl rfl) rfl rfl ?_ ?_ ?_ ?_; kernel_rfl; kernel_rfl; kernel_rfl
    refine aT 6 rfl (ev_qe rfl) rfl rfl ?_ ?_ ?_ ?_; kernel_rfl; kernel_rfl; kernel_rfl
    refine aT 7 rfl (ev_qe rfl) rfl rfl ?_ ?_ ?_ ?_; kernel_rfl; kernel_rfl; kernel_rfl
    refine aT 8 rfl (ev_qe rfl) rfl rfl ?_ ?_ ?_ ?_; kernel_rfl; kernel_rfl; kernel_rfl
    refine aT 9 rfl (ev_cmp_f (op := .neq) (m := 0) (n := 0) rfl rfl rfl) rfl rfl ?_ ?_ ?_ ?_; kernel_rfl; kernel_rfl; kernel_rfl
    refine aT 10 rfl (ev_qe rfl) rfl rfl ?_ ?_ ?_ ?_; kernel_rfl; kernel_rfl; kernel_rfl
    refine aT 11 rfl (ev_qe rfl) rfl rfl ?_ ?_ ?_ ?_; kernel_rfl; kernel_rfl; kernel_rfl
    refine aT 12 rfl (ev_load_agg (cs := suC su2 (.slice la su2.liars.length lc)) rfl rfl (Rdb.ofB (n := 0) (.there .here) rfl) rfl) rfl rfl ?_ ?_ ?_ ?_; kernel_rfl; kernel_rfl; kernel_rfl
    refine aT 13 rfl (ev_load_agg (cs := suC su2 (.slice la2 su2.liars.length lc2)) rfl rfl (Rdb.ofB (n := 0) .here rfl) rfl) rfl rfl ?_ ?_ ?_ ?_; kernel_rfl; kernel_rfl; kernel_rfl
    refine aB (i := 14) (by kernel_rfl) (aP rfl hss Tryd.call16 rfl rfl rfl (fun _ s => Sat.left (A := [_, _]) s) ?_)
    refine aT 15 rfl (ev_qe rfl) rfl rfl ?_ ?_ ?_ ?_; kernel_rfl; kernel_rfl; kernel_rfl
    refine aT 16 rfl (ev_qe rfl) rfl rfl ?_ ?_ ?_ ?_; kernel_rfl; kernel_rfl; kernel_rfl
    refine aT 17 rfl (ev_qe rfl) rfl rfl ?_ ?_ ?_ ?_; kernel_rfl; kernel_rfl; kernel_rfl
    refine aT 18 rfl (ev_qe rfl) rfl rfl ?_ ?_ ?_ ?_; kernel_rfl; kernel_rfl; kernel_rfl
    refine aT 19 rfl (ev_qe rfl) rfl rfl ?_ ?_ ?_ ?_; kernel_rfl; kernel_rfl; kernel_rfl
    refine aT 20 rfl (ev_qe rfl) rfl rfl ?_ ?_ ?_ ?_; kernel_rfl; kernel_rfl; kernel_rfl
    refine aT 21 rfl (ev_qe rfl) rfl rfl ?_ ?_ ?_ ?_; kernel_rfl; kernel_rfl; kernel_rfl
    refine aT 22 rfl (ev_cmp_f (op := .neq) (m := L2.length) (n := L2.length) rfl rfl rfl) rfl rfl ?_ ?_ ?_ ?_; kernel_rfl; kernel_rfl; kernel_rfl
    refine aT 23 rfl (ev_qe rfl) rfl rfl ?_ ?_ ?_ ?_; kernel_rfl; kernel_rfl; kernel_rfl
    refine aT 24 rfl (ev_qe rfl) rfl rfl ?_ ?_ ?_ ?_; kernel_rfl; kernel_rfl; kernel_rfl
    refine aT 25 rfl (ev_load_agg (cs := suC su2 (.slice la su2.liars.length lc)) rfl rfl (Rdb.ofB (n := 0) (.there .here) rfl) rfl) rfl rfl ?_ ?_ ?_ ?_; kernel_rfl; kernel_rfl; kernel_rfl
    refine aT 27 rfl (ev_load_agg (cs := suC su2 (.slice la su2.liars.length lc)) rfl rfl (Rdb.ofB (n := 0) (.there .here) rfl) rfl) rfl rfl ?_ ?_ ?_ ?_; kernel_rfl; kernel_rfl; kernel_rfl
    refine aB (i := 26) (by kernel_rfl) (aC (Hc := []) (Hr := blk b16 41 (suC su2 (.slice la2 su2.liars.length lc2)) :: blk b3 41 (suC su2 (.slice la su2.liars.length lc)) :: X) rfl hp1 Tryd.call17 rfl rfl rfl (fun _ s => s) (fun _ _ _ hF hq w s => by obtain ⟨e, _⟩ := hq; subst e; exact (Sat.left (A := [_, _]) s).mono hF) ?_)
    rintro _ G3 _ hG3 ⟨rfl, rfl⟩
    have hle3 := hle2.trans hG3
    refine aB (i := 28) (by kernel_rfl) (aP rfl (dfirst_spec su2 _ G3 (hx.mono hle3) (by omega)) Tryd.call13 rfl rfl rfl (fun _ s => (Sat.left (A := [_, _]) s).mono hG3) ?_)
    rw [dFirst_eq]
    refine aT 29 rfl (ev_sneq (bs := firstB su2) (cs := firstB su2) (r := false) rfl rfl (by simp)) rfl rfl ?_ ?_ ?_ ?_; kernel_rfl; kernel_rfl; kernel_rfl
    refine aT 30 rfl (ev_qe rfl) rfl rfl ?_ ?_ ?_ ?_; kernel_rfl; kernel_rfl; kernel_rfl
    refine aD (by kernel_rfl) ?_
    repeat (first|refine zJ rfl rfl ?_|refine jr rfl ?_|refine jn ?_|refine zM rfl rfl ?_|(refine zC rfl rfl ?_ rfl ?_;omega)|(refine zD rfl rfl ?_ rfl ?_;omega)|(refine zP rfl ?_ rfl ?_;omega)|refine zG rfl rfl rfl rfl ?_|(refine jdq rfl rfl ?_ ?_ ?_;kernel_rfl;kernel_rfl)|refine zB rfl rfl rfl (by repeat constructor) rfl ?_|refine zH .here rfl rfl rfl rfl ?_|refine zH (.there .here) rfl rfl rfl rfl ?_|refine zH (.there (.there .here)) rfl rfl rfl rfl ?_)
    refine J_loop (ι := Nat) (fun i => i ≤ L2.length) (fun i => L2.length - i) (fun i => [(1, .slice a L2.length c), (2, .int .u8 m), (3, .pointer (some ⟨b3, 0, none⟩)), (17, .slice sa L2.length sc), (109, .int .i64 L2.length), (110, .int .i64 i)]) (fun _ => G3) (fun _ => blk b16 41 (suC su2 (.slice la2 su2.liars.length lc2)) :: blk b3 41 (suC su2 (.slice la su2.liars.length lc)) :: X) 0 (Nat.zero_le _) ⟨⟨rfl, rfl, rfl, rfl, rfl, rfl, trivial⟩, fun w s => s⟩ ?_
    intro i hi2
    by_cases hlt2 : i < L2.length
    · obtain ⟨z, hz⟩ : ∃ z, L2[i]? = some z := ⟨_, List.getElem?_eq_getElem hlt2⟩
      obtain ⟨p1, o1, vo, vb, vt, rfl, hz1, hs1⟩ := hat i z hz
      obtain ⟨p2, o2, wo, wb, wt, rfl, hz2, hs2⟩ := hat2 i z hz
      have hzf := (hokm z (List.mem_of_getElem? hz)).1
      have q1 := hzf.orgs
      have q2 := hzf.tags
      have hsame := dsame_spec z z vo vb vt wo wb wt G3 (hs1.mono hle3) (hs2.mono hG3) (by omega) (by omega) (by omega)
      rw [(sameB_iff z z).2 rfl] at hsame
      repeat (first|refine zJ rfl rfl ?_|refine jr rfl ?_|refine jn ?_|refine zM rfl rfl ?_|(refine zC rfl rfl ?_ rfl ?_;omega)|(refine zD rfl rfl ?_ rfl ?_;omega)|(refine zP rfl ?_ rfl ?_;omega)|refine zG rfl rfl rfl rfl ?_|(refine jdq rfl rfl ?_ ?_ ?_;kernel_rfl;kernel_rfl)|refine zB rfl rfl rfl (by repeat constructor) rfl ?_|refine zH .here rfl rfl rfl rfl ?_|refine zH (.there .here) rfl rfl rfl rfl ?_|refine zH (.there (.there .here)) rfl rfl rfl rfl ?_)
      refine jd rfl ?_ ?_ ?_; kernel_rfl; kernel_rfl
      repeat (first|refine zJ rfl rfl ?_|refine jr rfl ?_|refine jn ?_|refine zM rfl rfl ?_|(refine zC rfl rfl ?_ rfl ?_;omega)|(refine zD rfl rfl ?_ rfl ?_;omega)|(refine zP rfl ?_ rfl ?_;omega)|refine zG rfl rfl rfl rfl ?_|(refine jdq rfl rfl ?_ ?_ ?_;kernel_rfl;kernel_rfl)|refine zB rfl rfl rfl (by repeat constructor) rfl ?_|refine zH .here rfl rfl rfl rfl ?_|refine zH (.there .here) rfl rfl rfl rfl ?_|refine zH (.there (.there .here)) rfl rfl rfl rfl ?_)
      refine oS (ev_indexAddr rfl rfl rfl hlt2) rfl ?_
      refine oS (ev_load_agg (cs := stC z vo vb vt) rfl rfl (Rdb.ofF (hz1.mono hle3)) rfl) rfl ?_
      repeat (first|refine zJ rfl rfl ?_|refine jr rfl ?_|refine jn ?_|refine zM rfl rfl ?_|(refine zC rfl rfl ?_ rfl ?_;omega)|(refine zD rfl rfl ?_ rfl ?_;omega)|(refine zP rfl ?_ rfl ?_;omega)|refine zG rfl rfl rfl rfl ?_|(refine jdq rfl rfl ?_ ?_ ?_;kernel_rfl;kernel_rfl)|refine zB rfl rfl rfl (by repeat constructor) rfl ?_|refine zH .here rfl rfl rfl rfl ?_|refine zH (.there .here) rfl rfl rfl rfl ?_|refine zH (.there (.there .here)) rfl rfl rfl rfl ?_)
      refine oS (ev_indexAddr rfl rfl rfl hlt2) rfl ?_
      refine oS (ev_load_agg (cs := stC z wo wb wt) rfl rfl (Rdb.ofF (hz2.mono hG3)) rfl) rfl ?_
      refine oP (hsame) Tryd.call11 rfl rfl ?_
      repeat (first|refine zJ rfl rfl ?_|refine jr rfl ?_|refine jn ?_|refine zM rfl rfl ?_|(refine zC rfl rfl ?_ rfl ?_;omega)|(refine zD rfl rfl ?_ rfl ?_;omega)|(refine zP rfl ?_ rfl ?_;omega)|refine zG rfl rfl rfl rfl ?_|(refine jdq rfl rfl ?_ ?_ ?_;kernel_rfl;kernel_rfl)|refine zB rfl rfl rfl (by repeat constructor) rfl ?_|refine zH .here rfl rfl rfl rfl ?_|refine zH (.there .here) rfl rfl rfl rfl ?_|refine zH (.there (.there .here)) rfl rfl rfl rfl ?_)
      exact J_again (ι := Nat) (i + 1) hlt2 (by omega) ⟨⟨rfl, rfl, rfl, rfl, rfl, rfl, trivial⟩, fun w s => s⟩
    · obtain rfl : i = L2.length := by omega
      repeat (first|refine zJ rfl rfl ?_|refine jr rfl ?_|refine jn ?_|refine zM rfl rfl ?_|(refine zC rfl rfl ?_ rfl ?_;omega)|(refine zD rfl rfl ?_ rfl ?_;omega)|(refine zP rfl ?_ rfl ?_;omega)|refine zG rfl rfl rfl rfl ?_|(refine jdq rfl rfl ?_ ?_ ?_;kernel_rfl;kernel_rfl)|refine zB rfl rfl rfl (by repeat constructor) rfl ?_|refine zH .here rfl rfl rfl rfl ?_|refine zH (.there .here) rfl rfl rfl rfl ?_|refine zH (.there (.there .here)) rfl rfl rfl rfl ?_)
      refine ja G3 [blk b16 41 (suC su2 (.slice la2 su2.liars.length lc2)), blk b3 41 (suC su2 (.slice la su2.liars.length lc))] ?_ ?_ ?_; kernel_rfl
      · exact fun w s => Sat.left (A := [_, _]) s
      refine aT 0 rfl (ev_load_agg (cs := suC su2 (.slice la su2.liars.length lc)) rfl rfl (Rdb.ofB (n := 0) (.there .here) rfl) rfl) rfl rfl ?_ ?_ ?_ ?_; kernel_rfl; kernel_rfl; kernel_rfl
      refine aT 1 rfl (ev_qe rfl) rfl rfl ?_ ?_ ?_ ?_; kernel_rfl; kernel_rfl; kernel_rfl
      refine aT 2 rfl (ev_conv (r := m) rfl rfl rfl (wrap_in (by dsimp only [InK]; omega))) rfl rfl ?_ ?_ ?_ ?_; kernel_rfl; kernel_rfl; kernel_rfl
      refine aT 3 rfl (ea rfl rfl rfl (by dsimp only [InK]; omega)) rfl rfl ?_ ?_ ?_ ?_; kernel_rfl; kernel_rfl; kernel_rfl
      refine aB (i := 4) (by kernel_rfl) (aE rfl (ev_make_full (c := 4097 + m.toNat) (show opv _ _ = _ from congrArg (fun z : Int => some (Value.int .i64 z)) (by omega)) (show opv _ _ = _ from congrArg (fun z : Int => some (Value.int .i64 z)) (by omega)) elSt (by omega)) rfl rfl (fun _ _ _ _ hq w s => by obtain ⟨e, _, e2⟩ := hq; subst e; subst e2; exact Sat.left (A := [_, _]) s.drop) ?_)
      rintro _ _ _ _ ⟨rfl, ⟨bm, rfl⟩, rfl⟩
      refine aB (i := 5) (by kernel_rfl) (aC (Hc := []) (Hr := _ :: blk b16 41 (suC su2 (.slice la2 su2.liars.length lc2)) :: blk b3 41 (suC su2 (.slice la su2.liars.length lc)) :: X) rfl (printMany_spec su2 _ _ (4097 + m.toNat) (4097 + m.toNat) G3 (hx.mono hle3) (by omega)) Tryd.call14 rfl rfl rfl (fun _ s => s) (fun _ _ _ hF hq w s => by obtain ⟨e, _⟩ := hq; subst e; exact (Sat.left (A := [_, _]) s.drop).mono hF) ?_)
      rintro _ G4 _ hG4 ⟨rfl, rfl⟩
      refine aT 6 rfl (ev_qe rfl) rfl rfl ?_ ?_ ?_ ?_; kernel_rfl; kernel_rfl; kernel_rfl
      refine aT 7 rfl (ev_qe rfl) rfl rfl ?_ ?_ ?_ ?_; kernel_rfl; kernel_rfl; kernel_rfl
      refine aT 8 rfl (ev_qe rfl) rfl rfl ?_ ?_ ?_ ?_; kernel_rfl; kernel_rfl; kernel_rfl
      refine aT 9 rfl (ev_qe rfl) rfl rfl ?_ ?_ ?_ ?_; kernel_rfl; kernel_rfl; kernel_rfl
      refine aT 10 rfl (ev_qe rfl) rfl rfl ?_ ?_ ?_ ?_; kernel_rfl; kernel_rfl; kernel_rfl
      refine aD (by kernel_rfl) ?_
      repeat (first|refine zJ rfl rfl ?_|refine jr rfl ?_|refine jn ?_|refine zM rfl rfl ?_|(refine zC rfl rfl ?_ rfl ?_;omega)|(refine zD rfl rfl ?_ rfl ?_;omega)|(refine zP rfl ?_ rfl ?_;omega)|refine zG rfl rfl rfl rfl ?_|(refine jdq rfl rfl ?_ ?_ ?_;kernel_rfl;kernel_rfl)|refine zB rfl rfl rfl (by repeat constructor) rfl ?_|refine zH .here rfl rfl rfl rfl ?_|refine zH (.there .here) rfl rfl rfl rfl ?_|refine zH (.there (.there .here)) rfl rfl rfl rfl ?_)
      exact J_retv (vs := [.bool true]) rfl (.tmp rfl .nil) [] (fun w s => s.drop.drop.drop) (hle3.trans hG4) ⟨rfl, rfl⟩
open Go.ChangeShapes Go.WideShapes Go.ChangeAt
set_option maxRecDepth 100000 in theorem ScriptBack_lifted (os : Os) (started : os.Started) (H : Type) (enc : TypeId × Value → H) : ReturnsInHanded {} Tryd.checked os 5 .any (fun w args => (Rows.scriptBackSpec.pre enc Tryd.prog Tryd.f5 [] false w args ∧ laidMetH Tryd.prog Rows.scriptBackRow.laid w) ∧ sizedMet enc Tryd.prog Tryd.f5 (OpenSpec.ofChange Rows.scriptBackSpec) false w args) (Rows.scriptBackSpec.post enc Tryd.prog Tryd.f5 false true false false) := by 
  refine returnsInHanded_of_change_and (C := Tryd.checked) (X := fun w _ => laidMetH Tryd.prog Rows.scriptBackRow.laid w) (fun _ _ _ hh h => h.of_heap hh) own_knob started (by kernel_rfl) Tryd.func5 (ChangeSpec.witness_shaped (enc := enc) (C := Tryd.checked) (os := os) (X := fun w _ => laidMetH Tryd.prog Rows.scriptBackRow.laid w) false (World.laidAll Tryd.prog os laidL) #[.agg (suC zSu nl).toArray, .slice none 0 0, .int .u8 0] 8 (World.laidAll_os _ _ _) (World.shaped_of_ZipB (by kernel_rfl) (by kernel_rfl)) (by kernel_rfl) (by kernel_rfl) (by kernel_rfl) (laid_met os _)) ?_; intro W base args ds gs before hval0 hW hcnd _ hL _; have hval : ∀ (j : Nat) t v, Tryd.f5.params[j]? = some t → args[j]? = some v → Value.okWide Tryd.prog W .any base t v := hval0; have hW' := hW; obtain ⟨p, q, hA0, hV, hp, hfz, hnd⟩ := hW; have hA : DataW.TrodAll enc Tryd.prog W 0 (fun _ => true) true Tryd.f5.params.toList args.toList ds p := hA0; obtain ⟨rfl, rfl⟩ := trodVars_none hV; rw [List.append_nil] at hp; have hA' := hA; rw [Tryd.params5] at hA hval
  obtain ⟨v0, vs0, d0, ds0, p0, q0, hargs, rfl, rfl, h0, r0⟩ := trodAll_cons hA; obtain ⟨v1, vs1, d1, ds1, p1, q1, rfl, rfl, rfl, h1, r1⟩ := trodAll_cons r0; obtain ⟨v2, vs2, d2, ds2, p2, q2, rfl, rfl, rfl, h2, r2⟩ := trodAll_cons r1; obtain ⟨rfl, rfl, rfl⟩ := trodAll_nil r2; obtain rfl : args = #[v0, v1, v2] := by cases args; simp_all
  obtain ⟨x0, cs0, rfl, hrep⟩ := open_struct sSu Tryd.underlying41 (hval 0 41 v0 rfl rfl) h0
  obtain ⟨su, vl, rfl, hx⟩ := setup_of hrep
  obtain ⟨xs, hxs⟩ := open_row sSt Tryd.underlying42 (by kernel_rfl) (by decide) (hval 1 42 v1 rfl rfl) h1
  obtain ⟨L, hR⟩ := row_of hxs
  obtain ⟨n, rfl, rfl, rfl, w2⟩ := open_int Tryd.underlying5 (hval 2 5 v2 rfl rfl) h2
  have hb8 : InK .u8 n := wf_inK w2
  obtain ⟨_, ⟨_, a, c, rfl, _, _⟩, _⟩ := id hR
  refine (law_walk (ScriptBack_walk su vl a c L n (ph W) (libF_of_laid hL) hx hR hb8.1 hb8.2)).mono fun e W' ⟨he, hb⟩ => ?_
  subst he
  exact ⟨_, rfl, law_post laid_out (by kernel_rfl) rfl rfl Tryd.underlying4 hW' hA' hp rfl hb⟩
theorem ScriptBack_row : Rows.ScriptBackSaid := OpenClaim.holds_of_wide 5 Tryd.f5 rfl rfl rfl rfl rfl rfl rfl ⟨rfl, rfl, rfl, rfl, rfl⟩ rfl rfl rfl rfl rfl (by kernel_rfl) Tryd.func5 (by kernel_rfl) (of_decide_eq_true (by kernel_rfl)) (by unfold Func.isWrapper; first | (rw [if_pos (by decide +kernel)]; kernel_rfl) | (rw [if_neg (by decide +kernel)]; exact ⟨rfl, rfl⟩)) (fun os started H enc _ => ScriptBack_lifted os started H enc)
theorem ScriptBack_holds : Rows.ScriptBackCardSaid :=
  Claim7.holds_tied_plain_at .later [] [.data, .data, .data, .data, .sentinel, .sentinel, .pinned] true Rows.scriptBackCard.stood.harness true
    ScriptBack_row (fun _ h => by cases h) (by kernel_rfl) (fun _ h => by cases h) scriptBack_row_tie rfl ⟨rfl, rfl⟩ (by kernel_rfl) rfl
    (fun f fn hf hfn => by
      obtain rfl : f = 5 := Option.some.inj ((show Tryd.prog.funcNamed Rows.scriptBackRow.func = some 5 by kernel_rfl).symm.trans hf) |>.symm
      obtain rfl : fn = Tryd.f5 := (Option.some.inj (Tryd.func5.symm.trans hfn)).symm
      exact ⟨by kernel_rfl, fun j t ht => by
        rw [Tryd.params5] at ht
        have hm : t ∈ [41, 42, 5] := by simpa using Array.mem_of_getElem? ht
        have hall : ([41, 42, 5].all fun u => !Tryd.prog.wantsStandIn u) = true := by kernel_rfl
        exact (show Tryd.prog.wantsStandIn t = false by simpa using List.all_eq_true.1 hall t hm)⟩)
    (by kernel_rfl)
#print axioms ScriptBack_holds
end Go.Proofs.YtekdmpbkcjjllaaDoor
