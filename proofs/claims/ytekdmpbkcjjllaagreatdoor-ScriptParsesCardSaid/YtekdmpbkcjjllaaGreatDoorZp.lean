/-
  The document's first line, when two openings are the same to it, and its reader of a script.
-/
import Derived.Test.YtekdmpbkcjjllaaGreatDoorPy
namespace Go.Proofs.YtekdmpbkcjjllaaGreatDoor
open Go.RowKit
set_option maxRecDepth 100000
def dFirstB (x : Su) : W8 := wCluster ++ spW (nums [x.f, x.clients]) ++ spW (nums x.liars)
set_option maxHeartbeats 8000000 in
theorem dfirst_spec (x : Su) (vl : Value) (F : PH) (hx : SuOk F x vl) (hl : x.liars.length ≤ 10000000) : Pure Tryz.prog 18 [.agg (suC x vl).toArray] F (.string (strOf (dFirstB x))) := by
  obtain ⟨la, lc, rfl, _, _⟩ := hx.liars.at1
  have hw := words_spec _ _ F hx.liars hl
  have l1 := spW_nums_len (l := [x.f, x.clients]) (by simp only [List.mem_cons, List.not_mem_nil, or_false, forall_eq_or_imp, forall_eq]; exact ⟨hx.f, hx.clients⟩)
  have l2 := spW_nums_len hx.liars.2
  simp only [List.length_cons, List.length_nil] at l1
  refine Spec.of1 Tryz.func18 rfl rfl fun X w0 => ?_
  repeat (first|refine zJ rfl rfl ?_|refine jr rfl ?_|refine jn ?_|refine zM rfl rfl ?_|(refine zC rfl rfl ?_ rfl ?_;omega)|(refine zD rfl rfl ?_ rfl ?_;omega)|(refine zP rfl ?_ rfl ?_;omega)|refine zG rfl rfl rfl rfl ?_|(refine jdq rfl rfl ?_ ?_ ?_;kernel_rfl;kernel_rfl)|refine zB rfl rfl rfl (by repeat constructor) rfl ?_|refine zH .here rfl rfl rfl rfl ?_|refine zH (.there .here) rfl rfl rfl rfl ?_|refine zH (.there (.there .here)) rfl rfl rfl rfl ?_|refine zH (.there (.there (.there .here))) rfl rfl rfl rfl ?_|refine zH (.there (.there (.there (.there .here)))) rfl rfl rfl rfl ?_)
  refine oE (ev_box rfl .agg) rfl ?_; rintro _ _ _ _ ⟨rfl, b1, rfl, rfl⟩
  repeat (first|refine zJ rfl rfl ?_|refine jr rfl ?_|refine jn ?_|refine zM rfl rfl ?_|(refine zC rfl rfl ?_ rfl ?_;omega)|(refine zD rfl rfl ?_ rfl ?_;omega)|(refine zP rfl ?_ rfl ?_;omega)|refine zG rfl rfl rfl rfl ?_|(refine jdq rfl rfl ?_ ?_ ?_;kernel_rfl;kernel_rfl)|refine zB rfl rfl rfl (by repeat constructor) rfl ?_|refine zH .here rfl rfl rfl rfl ?_|refine zH (.there .here) rfl rfl rfl rfl ?_|refine zH (.there (.there .here)) rfl rfl rfl rfl ?_|refine zH (.there (.there (.there .here))) rfl rfl rfl rfl ?_|refine zH (.there (.there (.there (.there .here)))) rfl rfl rfl rfl ?_)
  refine ja F [blk b1 25 (suC x (.slice la x.liars.length lc))] ?_ ?_ ?_; kernel_rfl
  · exact fun w s => s.head
  refine aT 0 rfl (ev_qe rfl) rfl rfl ?_ ?_ ?_ ?_; kernel_rfl; kernel_rfl; kernel_rfl
  refine aT 1 rfl (ev_load (v := .int .i64 x.f) rfl rfl (Rdb.ofB (n := 0) .here rfl)) rfl rfl ?_ ?_ ?_ ?_; kernel_rfl; kernel_rfl; kernel_rfl
  refine aT 2 rfl (ev_qe rfl) rfl rfl ?_ ?_ ?_ ?_; kernel_rfl; kernel_rfl; kernel_rfl
  refine aT 3 rfl (ev_load (v := .int .i64 x.clients) rfl rfl (Rdb.ofB (n := 2) .here rfl)) rfl rfl ?_ ?_ ?_ ?_; kernel_rfl; kernel_rfl; kernel_rfl
  refine aT 7 rfl (ev_qe rfl) rfl rfl ?_ ?_ ?_ ?_; kernel_rfl; kernel_rfl; kernel_rfl
  refine aT 8 rfl (ev_load (v := .slice la x.liars.length lc) rfl rfl (Rdb.ofB (n := 1) .here rfl)) rfl rfl ?_ ?_ ?_ ?_; kernel_rfl; kernel_rfl; kernel_rfl
  refine aB (i := 4) (by kernel_rfl) (aE rfl (ev_buildSlice (E := 3) (zs := [.int .i64 0]) (r := [.int .i64 0, .int .i64 0]) (t := ints [x.f, x.clients]) rfl rfl rfl rfl rfl rfl (.cons .int rfl (by repeat constructor) (.cons .int rfl (by repeat constructor) .nil))) rfl rfl (fun _ _ _ _ hq w s => by obtain ⟨e, _, _, e2⟩ := hq; subst e; subst e2; exact s.drop.head) ?_)
  rintro _ _ _ _ ⟨rfl, bt, rfl, rfl⟩
  refine aPersist fun hh hA hd => ?_
  have hrow : NumRow (F.un hh) (.slice (some ⟨bt, 0, none⟩) 2 2) [x.f, x.clients] := NumRow.of_blk hA hd (by simp only [List.mem_cons, List.not_mem_nil, or_false, forall_eq_or_imp, forall_eq]; exact ⟨hx.f, hx.clients⟩)
  have hle := PH.le_l F hh
  have hw1 := words_spec _ _ (F.un hh) hrow (by show 2 ≤ 10000000; decide)
  have hw2 := words_spec _ _ (F.un hh) (hx.liars.mono hle) hl
  refine aB (i := 5) (by kernel_rfl) (aP rfl hw1 Tryz.call19 rfl rfl rfl (fun _ s => s.head.mono hle) ?_)
  refine aT 6 rfl (ev_cat (a := wCluster) rfl rfl (by rw [show wCluster.length = 7 from rfl]; omega)) rfl rfl ?_ ?_ ?_ ?_; kernel_rfl; kernel_rfl; kernel_rfl
  refine aB (i := 9) (by kernel_rfl) (aP rfl hw2 Tryz.call19 rfl rfl rfl (fun _ s => s.head.mono hle) ?_)
  refine aT 10 rfl (ev_cat rfl rfl (by rw [List.length_append, show wCluster.length = 7 from rfl]; omega)) rfl rfl ?_ ?_ ?_ ?_; kernel_rfl; kernel_rfl; kernel_rfl
  refine aT 11 rfl (ev_qe rfl) rfl rfl ?_ ?_ ?_ ?_; kernel_rfl; kernel_rfl; kernel_rfl
  refine aD (by kernel_rfl) ?_
  repeat (first|refine zJ rfl rfl ?_|refine jr rfl ?_|refine jn ?_|refine zM rfl rfl ?_|(refine zC rfl rfl ?_ rfl ?_;omega)|(refine zD rfl rfl ?_ rfl ?_;omega)|(refine zP rfl ?_ rfl ?_;omega)|refine zG rfl rfl rfl rfl ?_|(refine jdq rfl rfl ?_ ?_ ?_;kernel_rfl;kernel_rfl)|refine zB rfl rfl rfl (by repeat constructor) rfl ?_|refine zH .here rfl rfl rfl rfl ?_|refine zH (.there .here) rfl rfl rfl rfl ?_|refine zH (.there (.there .here)) rfl rfl rfl rfl ?_|refine zH (.there (.there (.there .here))) rfl rfl rfl rfl ?_|refine zH (.there (.there (.there (.there .here)))) rfl rfl rfl rfl ?_)
  exact J_retv rfl (.tmp rfl .nil) [] (fun w s => s.drop) hle ⟨rfl, rfl⟩
set_option maxHeartbeats 8000000 in
theorem dsetup_spec (x y : Su) (vl wl : Value) (F : PH) (hx : SuOk F x vl) (hy : SuOk F y wl) (hl : x.liars.length ≤ 10000000) (hl2 : y.liars.length ≤ 10000000) : Pure Tryz.prog 7 [.agg (suC x vl).toArray, .agg (suC y wl).toArray] F (.bool (decide (dFirstB x = dFirstB y))) := by
  have h1 := dfirst_spec x vl F hx hl
  have h2 := dfirst_spec y wl F hy hl2
  refine Spec.of2 Tryz.func7 rfl rfl fun X w0 => ?_
  repeat (first|refine zJ rfl rfl ?_|refine jr rfl ?_|refine jn ?_|refine zM rfl rfl ?_|(refine zC rfl rfl ?_ rfl ?_;omega)|(refine zD rfl rfl ?_ rfl ?_;omega)|(refine zP rfl ?_ rfl ?_;omega)|refine zG rfl rfl rfl rfl ?_|(refine jdq rfl rfl ?_ ?_ ?_;kernel_rfl;kernel_rfl)|refine zB rfl rfl rfl (by repeat constructor) rfl ?_|refine zH .here rfl rfl rfl rfl ?_|refine zH (.there .here) rfl rfl rfl rfl ?_|refine zH (.there (.there .here)) rfl rfl rfl rfl ?_|refine zH (.there (.there (.there .here))) rfl rfl rfl rfl ?_|refine zH (.there (.there (.there (.there .here)))) rfl rfl rfl rfl ?_)
  refine oE (ev_box rfl .agg) rfl ?_; rintro _ _ _ _ ⟨rfl, b2, rfl, rfl⟩
  refine oE (ev_box rfl .agg) rfl ?_; rintro _ _ _ _ ⟨rfl, b3, rfl, rfl⟩
  repeat (first|refine zJ rfl rfl ?_|refine jr rfl ?_|refine jn ?_|refine zM rfl rfl ?_|(refine zC rfl rfl ?_ rfl ?_;omega)|(refine zD rfl rfl ?_ rfl ?_;omega)|(refine zP rfl ?_ rfl ?_;omega)|refine zG rfl rfl rfl rfl ?_|(refine jdq rfl rfl ?_ ?_ ?_;kernel_rfl;kernel_rfl)|refine zB rfl rfl rfl (by repeat constructor) rfl ?_|refine zH .here rfl rfl rfl rfl ?_|refine zH (.there .here) rfl rfl rfl rfl ?_|refine zH (.there (.there .here)) rfl rfl rfl rfl ?_|refine zH (.there (.there (.there .here))) rfl rfl rfl rfl ?_|refine zH (.there (.there (.there (.there .here)))) rfl rfl rfl rfl ?_)
  refine jd rfl ?_ ?_ ?_; kernel_rfl; kernel_rfl
  refine oS (ev_load_agg (cs := suC x vl) rfl rfl (Rdb.ofB (n := 0) (.there .here) rfl) rfl) rfl ?_
  refine oP (h1) Tryz.call18 rfl rfl ?_
  refine oS (ev_load_agg (cs := suC y wl) rfl rfl (Rdb.ofB (n := 0) .here rfl) rfl) rfl ?_
  refine oP (h2) Tryz.call18 rfl rfl ?_
  refine oS (ev_seql (r := decide (dFirstB x = dFirstB y)) rfl rfl rfl) rfl ?_
  repeat (first|refine zJ rfl rfl ?_|refine jr rfl ?_|refine jn ?_|refine zM rfl rfl ?_|(refine zC rfl rfl ?_ rfl ?_;omega)|(refine zD rfl rfl ?_ rfl ?_;omega)|(refine zP rfl ?_ rfl ?_;omega)|refine zG rfl rfl rfl rfl ?_|(refine jdq rfl rfl ?_ ?_ ?_;kernel_rfl;kernel_rfl)|refine zB rfl rfl rfl (by repeat constructor) rfl ?_|refine zH .here rfl rfl rfl rfl ?_|refine zH (.there .here) rfl rfl rfl rfl ?_|refine zH (.there (.there .here)) rfl rfl rfl rfl ?_|refine zH (.there (.there (.there .here))) rfl rfl rfl rfl ?_|refine zH (.there (.there (.there (.there .here)))) rfl rfl rfl rfl ?_)
  exact J_retv rfl (.tmp rfl .nil) [] (fun w s => s.drop.drop) (PH.ler _) ⟨rfl, rfl⟩
theorem firstN_plain (r : List W8) : firstN r = match allW numW r with | some (f :: c :: l) => some ⟨f, l, c⟩ | _ => none := by
  cases r with
  | nil => rfl
  | cons a r =>
    rw [allW_cons]
    show (numW a).bind _ = _
    cases numW a with
    | none => rfl
    | some f =>
      cases r with
      | nil => rfl
      | cons b r =>
        rw [allW_cons]
        show (numW b).bind _ = _
        cases numW b with
        | none => rfl
        | some c =>
          show (allW numW r).map _ = _
          cases allW numW r <;> rfl
/-- What the document's Parse hands back of a text that isn't long. -/
def DParseQ (t : W8) (u : Value) (F' : PH) : Prop := ∃ x vl l vs e, u = .tuple #[.agg (suC x vl).toArray, vs, .int .i64 e] ∧ SuOk F' x vl ∧ StRow F' vs l ∧ ((parseT t = none ∧ e = 2 ∧ x = zSu ∧ l = []) ∨ (parseT t = some (x, l) ∧ e = 0))
theorem IQ.row {r : Option (List Int)} {u : Value} {F : PH} (h : IQ r u F) : ∃ na nc, u = .tuple #[.slice na (r.getD []).length nc, .bool r.isSome] ∧ NumRow F (.slice na (r.getD []).length nc) (r.getD []) := by
  obtain ⟨v, rfl, hv⟩ := h
  obtain ⟨a, c, rfl, _, _⟩ := hv.at1
  exact ⟨a, c, rfl, hv⟩
set_option maxHeartbeats 32000000 in
theorem dParse_spec (t : W8) (ht : t.length ≤ 1500) (F : PH) : Spec Tryz.prog 6 [.string (strOf t)] F [] fun u F' H' => H' = [] ∧ DParseQ t u F' := by
  refine Spec.of1 Tryz.func6 rfl rfl fun X w0 => ?_
  have hsz := strOf_size t
  repeat (first|refine zJ rfl rfl ?_|refine jr rfl ?_|refine jn ?_|refine zM rfl rfl ?_|(refine zC rfl rfl ?_ rfl ?_;omega)|(refine zD rfl rfl ?_ rfl ?_;omega)|(refine zP rfl ?_ rfl ?_;omega)|refine zG rfl rfl rfl rfl ?_|(refine jdq rfl rfl ?_ ?_ ?_;kernel_rfl;kernel_rfl)|refine zB rfl rfl rfl (by repeat constructor) rfl ?_|refine zH .here rfl rfl rfl rfl ?_|refine zH (.there .here) rfl rfl rfl rfl ?_|refine zH (.there (.there .here)) rfl rfl rfl rfl ?_|refine zH (.there (.there (.there .here))) rfl rfl rfl rfl ?_|refine zH (.there (.there (.there (.there .here)))) rfl rfl rfl rfl ?_)
  refine oE (ev_alloc (cs := suC zSu nl) rfl) rfl ?_
  rintro _ _ _ _ ⟨rfl, b2, rfl, rfl⟩
  repeat (first|refine zJ rfl rfl ?_|refine jr rfl ?_|refine jn ?_|refine zM rfl rfl ?_|(refine zC rfl rfl ?_ rfl ?_;omega)|(refine zD rfl rfl ?_ rfl ?_;omega)|(refine zP rfl ?_ rfl ?_;omega)|refine zG rfl rfl rfl rfl ?_|(refine jdq rfl rfl ?_ ?_ ?_;kernel_rfl;kernel_rfl)|refine zB rfl rfl rfl (by repeat constructor) rfl ?_|refine zH .here rfl rfl rfl rfl ?_|refine zH (.there .here) rfl rfl rfl rfl ?_|refine zH (.there (.there .here)) rfl rfl rfl rfl ?_|refine zH (.there (.there (.there .here))) rfl rfl rfl rfl ?_|refine zH (.there (.there (.there (.there .here)))) rfl rfl rfl rfl ?_)
  refine oC (Hc := []) (Hr := blk b2 25 (suC zSu nl) :: X) (dsplit_spec t 10 F (by omega)) Tryz.call15 rfl rfl (fun _ s => s) ?_
  rintro v F1 _ hF1 ⟨rfl, hv⟩
  have hne := splW_ne 10 t
  have hwl := splW_len_le 10 t
  have hLm := splW_mem 10 t
  have hPT : parseT t = if 2 ≤ (splW 10 t).length ∧ (splW 10 t).getLast? = some [] then (firstR (splW 32 ((splW 10 t).headD []))).bind fun x => (parseAll ((splW 10 t).tail.dropLast)).map fun l => (x, l) else none := rfl
  generalize splW 10 t = L at *
  obtain ⟨a, c, rfl, hc, hat⟩ := hv.form
  have hL0 : 0 < L.length := List.length_pos_iff.2 hne
  obtain ⟨l0, hl0⟩ : ∃ l0, L[0]? = some l0 := ⟨_, List.getElem?_eq_getElem hL0⟩
  have hl0m := hLm l0 (List.mem_of_getElem? hl0)
  have hhd : L.headD [] = l0 := by cases L with
    | nil => cases hl0
    | cons x r => cases hl0; rfl
  rw [hhd] at hPT
  obtain ⟨ab, ao, rfl, hc0⟩ := hat 0 l0 hl0
  repeat (first|refine zJ rfl rfl ?_|refine jr rfl ?_|refine jn ?_|refine zM rfl rfl ?_|(refine zC rfl rfl ?_ rfl ?_;omega)|(refine zD rfl rfl ?_ rfl ?_;omega)|(refine zP rfl ?_ rfl ?_;omega)|refine zG rfl rfl rfl rfl ?_|(refine jdq rfl rfl ?_ ?_ ?_;kernel_rfl;kernel_rfl)|refine zB rfl rfl rfl (by repeat constructor) rfl ?_|refine zH .here rfl rfl rfl rfl ?_|refine zH (.there .here) rfl rfl rfl rfl ?_|refine zH (.there (.there .here)) rfl rfl rfl rfl ?_|refine zH (.there (.there (.there .here))) rfl rfl rfl rfl ?_|refine zH (.there (.there (.there (.there .here)))) rfl rfl rfl rfl ?_)
  refine oS (ev_indexAddr (i := 0) rfl rfl rfl hL0) rfl ?_
  refine oS (ev_load rfl rfl (Rdb.ofF hc0)) rfl ?_
  refine oC (Hc := []) (Hr := blk b2 25 (suC zSu nl) :: X) (dsplit_spec l0 32 F1 (by omega)) Tryz.call15 rfl rfl (fun _ s => s) ?_
  rintro v F2 _ hF2 ⟨rfl, hw⟩
  have hneW := splW_ne 32 l0
  have hlW := splW_len_le 32 l0
  generalize splW 32 l0 = W at *
  cases W with
  | nil => exact absurd rfl hneW
  | cons name R =>
  have hlR : (name :: R).length = R.length + 1 := List.length_cons
  obtain ⟨wa, wc, rfl, _, hwat⟩ := hw.form
  have hvR := hw.from (lo := 1) (by omega)
  obtain ⟨wb, wo, rfl, hn0⟩ := hwat 0 name rfl
  have hfirst : firstR (name :: R) = if name = wCluster then firstN R else none := rfl
  rw [hfirst, firstN_plain] at hPT
  repeat (first|refine zJ rfl rfl ?_|refine jr rfl ?_|refine jn ?_|refine zM rfl rfl ?_|(refine zC rfl rfl ?_ rfl ?_;omega)|(refine zD rfl rfl ?_ rfl ?_;omega)|(refine zP rfl ?_ rfl ?_;omega)|refine zG rfl rfl rfl rfl ?_|(refine jdq rfl rfl ?_ ?_ ?_;kernel_rfl;kernel_rfl)|refine zB rfl rfl rfl (by repeat constructor) rfl ?_|refine zH .here rfl rfl rfl rfl ?_|refine zH (.there .here) rfl rfl rfl rfl ?_|refine zH (.there (.there .here)) rfl rfl rfl rfl ?_|refine zH (.there (.there (.there .here))) rfl rfl rfl rfl ?_|refine zH (.there (.there (.there (.there .here)))) rfl rfl rfl rfl ?_)
  refine oS (ev_slice_lo (lo := 1) rfl rfl rfl (by omega)) rfl ?_
  refine oC (Hc := []) (Hr := blk b2 25 (suC zSu nl) :: X) (dints_spec _ R F2 hvR (by omega)) Tryz.call16 rfl rfl (fun _ s => s) ?_
  rintro _ F3 _ hF3 ⟨rfl, hiq⟩
  obtain ⟨na, nc, rfl, hrow⟩ := hiq.row
  have hle3 := hF1.trans (hF2.trans hF3)
  obtain ⟨n, hn⟩ : ∃ n, L.length = n + 1 := ⟨L.length - 1, by omega⟩
  obtain ⟨wl, hwl9⟩ : ∃ wl, L[n]? = some wl := ⟨_, List.getElem?_eq_getElem (by omega)⟩
  have hlg : L.getLast? = some wl := by rw [List.getLast?_eq_getElem?, show L.length - 1 = n from by omega]; exact hwl9
  rw [hlg] at hPT
  obtain ⟨_, _, e9, hc9⟩ := hat n wl hwl9
  cases e9
  repeat (first|refine zJ rfl rfl ?_|refine jr rfl ?_|refine jn ?_|refine zM rfl rfl ?_|(refine zC rfl rfl ?_ rfl ?_;omega)|(refine zD rfl rfl ?_ rfl ?_;omega)|(refine zP rfl ?_ rfl ?_;omega)|refine zG rfl rfl rfl rfl ?_|(refine jdq rfl rfl ?_ ?_ ?_;kernel_rfl;kernel_rfl)|refine zB rfl rfl rfl (by repeat constructor) rfl ?_|refine zH .here rfl rfl rfl rfl ?_|refine zH (.there .here) rfl rfl rfl rfl ?_|refine zH (.there (.there .here)) rfl rfl rfl rfl ?_|refine zH (.there (.there (.there .here))) rfl rfl rfl rfl ?_|refine zH (.there (.there (.there (.there .here)))) rfl rfl rfl rfl ?_)
  refine oS (ev_indexAddr (i := n) rfl (show opv _ _ = _ from congrArg (fun z : Int => some (Value.int .i64 z)) (by omega)) rfl (by omega)) rfl ?_
  refine oS (ev_load rfl rfl (Rdb.ofF ((hc9.mono hF2).mono hF3))) rfl ?_
  repeat (first|refine zJ rfl rfl ?_|refine jr rfl ?_|refine jn ?_|refine zM rfl rfl ?_|(refine zC rfl rfl ?_ rfl ?_;omega)|(refine zD rfl rfl ?_ rfl ?_;omega)|(refine zP rfl ?_ rfl ?_;omega)|refine zG rfl rfl rfl rfl ?_|(refine jdq rfl rfl ?_ ?_ ?_;kernel_rfl;kernel_rfl)|refine zB rfl rfl rfl (by repeat constructor) rfl ?_|refine zH .here rfl rfl rfl rfl ?_|refine zH (.there .here) rfl rfl rfl rfl ?_|refine zH (.there (.there .here)) rfl rfl rfl rfl ?_|refine zH (.there (.there (.there .here))) rfl rfl rfl rfl ?_|refine zH (.there (.there (.there (.there .here)))) rfl rfl rfl rfl ?_)
  by_cases hw0 : wl = []
  case neg =>
    have hp : parseT t = none := by rw [hPT, if_neg (fun h => hw0 (Option.some.inj h.2))]
    refine oS (ev_sneq (cs := []) (r := true) rfl rfl (by simpa using hw0)) rfl ?_
    repeat (first|refine zJ rfl rfl ?_|refine jr rfl ?_|refine jn ?_|refine zM rfl rfl ?_|(refine zC rfl rfl ?_ rfl ?_;omega)|(refine zD rfl rfl ?_ rfl ?_;omega)|(refine zP rfl ?_ rfl ?_;omega)|refine zG rfl rfl rfl rfl ?_|(refine jdq rfl rfl ?_ ?_ ?_;kernel_rfl;kernel_rfl)|refine zB rfl rfl rfl (by repeat constructor) rfl ?_|refine zH .here rfl rfl rfl rfl ?_|refine zH (.there .here) rfl rfl rfl rfl ?_|refine zH (.there (.there .here)) rfl rfl rfl rfl ?_|refine zH (.there (.there (.there .here))) rfl rfl rfl rfl ?_|refine zH (.there (.there (.there (.there .here)))) rfl rfl rfl rfl ?_)
    refine oN (ev_store (vs := suC zSu nl) rfl rfl .agg rfl rfl (lay_all (zs := suC zSu nl) rfl) (by unfold suC nl; (repeat (first | exact ones_nil | refine ones_cons rfl ?_))) .here) rfl ?_
    rintro _ _ _ _ ⟨rfl, _, rfl⟩
    repeat (first|refine zJ rfl rfl ?_|refine jr rfl ?_|refine jn ?_|refine zM rfl rfl ?_|(refine zC rfl rfl ?_ rfl ?_;omega)|(refine zD rfl rfl ?_ rfl ?_;omega)|(refine zP rfl ?_ rfl ?_;omega)|refine zG rfl rfl rfl rfl ?_|(refine jdq rfl rfl ?_ ?_ ?_;kernel_rfl;kernel_rfl)|refine zB rfl rfl rfl (by repeat constructor) rfl ?_|refine zH .here rfl rfl rfl rfl ?_|refine zH (.there .here) rfl rfl rfl rfl ?_|refine zH (.there (.there .here)) rfl rfl rfl rfl ?_|refine zH (.there (.there (.there .here))) rfl rfl rfl rfl ?_|refine zH (.there (.there (.there (.there .here)))) rfl rfl rfl rfl ?_)
    exact J_retv (vs := [.agg (suC zSu nl).toArray, nl, .int .i64 2]) rfl (.agg rfl rfl (Rdb.ofB (n := 0) .here rfl) rfl (.tmp rfl (.tmp rfl .nil))) [] (fun w s => s.drop) (hle3) ⟨rfl, zSu, nl, [], nl, 2, rfl, zSu_ok F3, StRow.nil F3, .inl ⟨hp, rfl, rfl, rfl⟩⟩
  subst hw0
  refine oS (ev_sneq (bs := []) (cs := []) (r := false) rfl rfl (by decide)) rfl ?_
  repeat (first|refine zJ rfl rfl ?_|refine jr rfl ?_|refine jn ?_|refine zM rfl rfl ?_|(refine zC rfl rfl ?_ rfl ?_;omega)|(refine zD rfl rfl ?_ rfl ?_;omega)|(refine zP rfl ?_ rfl ?_;omega)|refine zG rfl rfl rfl rfl ?_|(refine jdq rfl rfl ?_ ?_ ?_;kernel_rfl;kernel_rfl)|refine zB rfl rfl rfl (by repeat constructor) rfl ?_|refine zH .here rfl rfl rfl rfl ?_|refine zH (.there .here) rfl rfl rfl rfl ?_|refine zH (.there (.there .here)) rfl rfl rfl rfl ?_|refine zH (.there (.there (.there .here))) rfl rfl rfl rfl ?_|refine zH (.there (.there (.there (.there .here)))) rfl rfl rfl rfl ?_)
  refine oS (ev_indexAddr (i := 0) rfl rfl rfl (by omega)) rfl ?_
  refine oS (ev_load rfl rfl (Rdb.ofF (hn0.mono hF3))) rfl ?_
  repeat (first|refine zJ rfl rfl ?_|refine jr rfl ?_|refine jn ?_|refine zM rfl rfl ?_|(refine zC rfl rfl ?_ rfl ?_;omega)|(refine zD rfl rfl ?_ rfl ?_;omega)|(refine zP rfl ?_ rfl ?_;omega)|refine zG rfl rfl rfl rfl ?_|(refine jdq rfl rfl ?_ ?_ ?_;kernel_rfl;kernel_rfl)|refine zB rfl rfl rfl (by repeat constructor) rfl ?_|refine zH .here rfl rfl rfl rfl ?_|refine zH (.there .here) rfl rfl rfl rfl ?_|refine zH (.there (.there .here)) rfl rfl rfl rfl ?_|refine zH (.there (.there (.there .here))) rfl rfl rfl rfl ?_|refine zH (.there (.there (.there (.there .here)))) rfl rfl rfl rfl ?_)
  by_cases hnm : name = wCluster
  case neg =>
    have hp : parseT t = none := by rw [hPT, if_neg hnm]; split <;> rfl
    refine oS (ev_sneq (bs := name) (cs := wCluster) (r := true) rfl rfl (by simpa using hnm)) rfl ?_
    repeat (first|refine zJ rfl rfl ?_|refine jr rfl ?_|refine jn ?_|refine zM rfl rfl ?_|(refine zC rfl rfl ?_ rfl ?_;omega)|(refine zD rfl rfl ?_ rfl ?_;omega)|(refine zP rfl ?_ rfl ?_;omega)|refine zG rfl rfl rfl rfl ?_|(refine jdq rfl rfl ?_ ?_ ?_;kernel_rfl;kernel_rfl)|refine zB rfl rfl rfl (by repeat constructor) rfl ?_|refine zH .here rfl rfl rfl rfl ?_|refine zH (.there .here) rfl rfl rfl rfl ?_|refine zH (.there (.there .here)) rfl rfl rfl rfl ?_|refine zH (.there (.there (.there .here))) rfl rfl rfl rfl ?_|refine zH (.there (.there (.there (.there .here)))) rfl rfl rfl rfl ?_)
    refine oN (ev_store (vs := suC zSu nl) rfl rfl .agg rfl rfl (lay_all (zs := suC zSu nl) rfl) (by unfold suC nl; (repeat (first | exact ones_nil | refine ones_cons rfl ?_))) .here) rfl ?_
    rintro _ _ _ _ ⟨rfl, _, rfl⟩
    repeat (first|refine zJ rfl rfl ?_|refine jr rfl ?_|refine jn ?_|refine zM rfl rfl ?_|(refine zC rfl rfl ?_ rfl ?_;omega)|(refine zD rfl rfl ?_ rfl ?_;omega)|(refine zP rfl ?_ rfl ?_;omega)|refine zG rfl rfl rfl rfl ?_|(refine jdq rfl rfl ?_ ?_ ?_;kernel_rfl;kernel_rfl)|refine zB rfl rfl rfl (by repeat constructor) rfl ?_|refine zH .here rfl rfl rfl rfl ?_|refine zH (.there .here) rfl rfl rfl rfl ?_|refine zH (.there (.there .here)) rfl rfl rfl rfl ?_|refine zH (.there (.there (.there .here))) rfl rfl rfl rfl ?_|refine zH (.there (.there (.there (.there .here)))) rfl rfl rfl rfl ?_)
    exact J_retv (vs := [.agg (suC zSu nl).toArray, nl, .int .i64 2]) rfl (.agg rfl rfl (Rdb.ofB (n := 0) .here rfl) rfl (.tmp rfl (.tmp rfl .nil))) [] (fun w s => s.drop) (hle3) ⟨rfl, zSu, nl, [], nl, 2, rfl, zSu_ok F3, StRow.nil F3, .inl ⟨hp, rfl, rfl, rfl⟩⟩
  rw [if_pos hnm] at hPT
  refine oS (ev_sneq (bs := name) (cs := wCluster) (r := false) rfl rfl (by simpa using hnm)) rfl ?_
  cases hall : allW numW R with
  | none =>
    rw [hall] at hPT
    have hp : parseT t = none := by rw [hPT]; split <;> rfl
    dsimp only [Option.isSome]
    repeat (first|refine zJ rfl rfl ?_|refine jr rfl ?_|refine jn ?_|refine zM rfl rfl ?_|(refine zC rfl rfl ?_ rfl ?_;omega)|(refine zD rfl rfl ?_ rfl ?_;omega)|(refine zP rfl ?_ rfl ?_;omega)|refine zG rfl rfl rfl rfl ?_|(refine jdq rfl rfl ?_ ?_ ?_;kernel_rfl;kernel_rfl)|refine zB rfl rfl rfl (by repeat constructor) rfl ?_|refine zH .here rfl rfl rfl rfl ?_|refine zH (.there .here) rfl rfl rfl rfl ?_|refine zH (.there (.there .here)) rfl rfl rfl rfl ?_|refine zH (.there (.there (.there .here))) rfl rfl rfl rfl ?_|refine zH (.there (.there (.there (.there .here)))) rfl rfl rfl rfl ?_)
    refine oN (ev_store (vs := suC zSu nl) rfl rfl .agg rfl rfl (lay_all (zs := suC zSu nl) rfl) (by unfold suC nl; (repeat (first | exact ones_nil | refine ones_cons rfl ?_))) .here) rfl ?_
    rintro _ _ _ _ ⟨rfl, _, rfl⟩
    repeat (first|refine zJ rfl rfl ?_|refine jr rfl ?_|refine jn ?_|refine zM rfl rfl ?_|(refine zC rfl rfl ?_ rfl ?_;omega)|(refine zD rfl rfl ?_ rfl ?_;omega)|(refine zP rfl ?_ rfl ?_;omega)|refine zG rfl rfl rfl rfl ?_|(refine jdq rfl rfl ?_ ?_ ?_;kernel_rfl;kernel_rfl)|refine zB rfl rfl rfl (by repeat constructor) rfl ?_|refine zH .here rfl rfl rfl rfl ?_|refine zH (.there .here) rfl rfl rfl rfl ?_|refine zH (.there (.there .here)) rfl rfl rfl rfl ?_|refine zH (.there (.there (.there .here))) rfl rfl rfl rfl ?_|refine zH (.there (.there (.there (.there .here)))) rfl rfl rfl rfl ?_)
    exact J_retv (vs := [.agg (suC zSu nl).toArray, nl, .int .i64 2]) rfl (.agg rfl rfl (Rdb.ofB (n := 0) .here rfl) rfl (.tmp rfl (.tmp rfl .nil))) [] (fun w s => s.drop) (hle3) ⟨rfl, zSu, nl, [], nl, 2, rfl, zSu_ok F3, StRow.nil F3, .inl ⟨hp, rfl, rfl, rfl⟩⟩
  | some ns =>
  rw [hall] at hPT hrow
  dsimp only [Option.isSome, Option.getD] at hrow ⊢
  by_cases hn2 : ns.length < 2
  case pos =>
    have hp : parseT t = none := by
      rw [hPT]
      match ns, hn2 with
      | [], _ => split <;> rfl
      | [_], _ => split <;> rfl
      | _ :: _ :: _, h => exact absurd h (by simp)
    repeat (first|refine zJ rfl rfl ?_|refine jr rfl ?_|refine jn ?_|refine zM rfl rfl ?_|(refine zC rfl rfl ?_ rfl ?_;omega)|(refine zD rfl rfl ?_ rfl ?_;omega)|(refine zP rfl ?_ rfl ?_;omega)|refine zG rfl rfl rfl rfl ?_|(refine jdq rfl rfl ?_ ?_ ?_;kernel_rfl;kernel_rfl)|refine zB rfl rfl rfl (by repeat constructor) rfl ?_|refine zH .here rfl rfl rfl rfl ?_|refine zH (.there .here) rfl rfl rfl rfl ?_|refine zH (.there (.there .here)) rfl rfl rfl rfl ?_|refine zH (.there (.there (.there .here))) rfl rfl rfl rfl ?_|refine zH (.there (.there (.there (.there .here)))) rfl rfl rfl rfl ?_)
    refine oN (ev_store (vs := suC zSu nl) rfl rfl .agg rfl rfl (lay_all (zs := suC zSu nl) rfl) (by unfold suC nl; (repeat (first | exact ones_nil | refine ones_cons rfl ?_))) .here) rfl ?_
    rintro _ _ _ _ ⟨rfl, _, rfl⟩
    repeat (first|refine zJ rfl rfl ?_|refine jr rfl ?_|refine jn ?_|refine zM rfl rfl ?_|(refine zC rfl rfl ?_ rfl ?_;omega)|(refine zD rfl rfl ?_ rfl ?_;omega)|(refine zP rfl ?_ rfl ?_;omega)|refine zG rfl rfl rfl rfl ?_|(refine jdq rfl rfl ?_ ?_ ?_;kernel_rfl;kernel_rfl)|refine zB rfl rfl rfl (by repeat constructor) rfl ?_|refine zH .here rfl rfl rfl rfl ?_|refine zH (.there .here) rfl rfl rfl rfl ?_|refine zH (.there (.there .here)) rfl rfl rfl rfl ?_|refine zH (.there (.there (.there .here))) rfl rfl rfl rfl ?_|refine zH (.there (.there (.there (.there .here)))) rfl rfl rfl rfl ?_)
    exact J_retv (vs := [.agg (suC zSu nl).toArray, nl, .int .i64 2]) rfl (.agg rfl rfl (Rdb.ofB (n := 0) .here rfl) rfl (.tmp rfl (.tmp rfl .nil))) [] (fun w s => s.drop) (hle3) ⟨rfl, zSu, nl, [], nl, 2, rfl, zSu_ok F3, StRow.nil F3, .inl ⟨hp, rfl, rfl, rfl⟩⟩
  by_cases hn1 : n < 1
  case pos =>
    have hp : parseT t = none := by rw [hPT, if_neg (fun h => by omega)]
    repeat (first|refine zJ rfl rfl ?_|refine jr rfl ?_|refine jn ?_|refine zM rfl rfl ?_|(refine zC rfl rfl ?_ rfl ?_;omega)|(refine zD rfl rfl ?_ rfl ?_;omega)|(refine zP rfl ?_ rfl ?_;omega)|refine zG rfl rfl rfl rfl ?_|(refine jdq rfl rfl ?_ ?_ ?_;kernel_rfl;kernel_rfl)|refine zB rfl rfl rfl (by repeat constructor) rfl ?_|refine zH .here rfl rfl rfl rfl ?_|refine zH (.there .here) rfl rfl rfl rfl ?_|refine zH (.there (.there .here)) rfl rfl rfl rfl ?_|refine zH (.there (.there (.there .here))) rfl rfl rfl rfl ?_|refine zH (.there (.there (.there (.there .here)))) rfl rfl rfl rfl ?_)
    refine oN (ev_store (vs := suC zSu nl) rfl rfl .agg rfl rfl (lay_all (zs := suC zSu nl) rfl) (by unfold suC nl; (repeat (first | exact ones_nil | refine ones_cons rfl ?_))) .here) rfl ?_
    rintro _ _ _ _ ⟨rfl, _, rfl⟩
    repeat (first|refine zJ rfl rfl ?_|refine jr rfl ?_|refine jn ?_|refine zM rfl rfl ?_|(refine zC rfl rfl ?_ rfl ?_;omega)|(refine zD rfl rfl ?_ rfl ?_;omega)|(refine zP rfl ?_ rfl ?_;omega)|refine zG rfl rfl rfl rfl ?_|(refine jdq rfl rfl ?_ ?_ ?_;kernel_rfl;kernel_rfl)|refine zB rfl rfl rfl (by repeat constructor) rfl ?_|refine zH .here rfl rfl rfl rfl ?_|refine zH (.there .here) rfl rfl rfl rfl ?_|refine zH (.there (.there .here)) rfl rfl rfl rfl ?_|refine zH (.there (.there (.there .here))) rfl rfl rfl rfl ?_|refine zH (.there (.there (.there (.there .here)))) rfl rfl rfl rfl ?_)
    exact J_retv (vs := [.agg (suC zSu nl).toArray, nl, .int .i64 2]) rfl (.agg rfl rfl (Rdb.ofB (n := 0) .here rfl) rfl (.tmp rfl (.tmp rfl .nil))) [] (fun w s => s.drop) (hle3) ⟨rfl, zSu, nl, [], nl, 2, rfl, zSu_ok F3, StRow.nil F3, .inl ⟨hp, rfl, rfl, rfl⟩⟩
  obtain ⟨f, cl, li, rfl⟩ : ∃ f cl li, ns = f :: cl :: li := by
    match ns, hn2 with
    | [], h => simp at h
    | [_], h => simp at h
    | f :: c :: l, _ => exact ⟨f, c, l, rfl⟩
  rw [if_pos ⟨by omega, rfl⟩] at hPT
  have hPT2 : parseT t = (parseAll (L.tail.dropLast)).map fun l => ((⟨f, li, cl⟩ : Su), l) := hPT
  have hlns : (f :: cl :: li).length = li.length + 2 := rfl
  have hcutn := SliceV.cut hrow.1 (lo := 2) (hi := (f :: cl :: li).length) (m := nc) (by omega) (Nat.le_refl _) (by obtain ⟨_, _, e, h, _⟩ := hrow.at1; cases e; exact h)
  rw [List.take_of_length_le (by simp [ints])] at hcutn
  have hli : NumRow F3 (cutV na 1 nc 2 (f :: cl :: li).length nc) li := ⟨by have h2 : (f :: cl :: li).length - 2 = li.length := rfl; rw [h2] at hcutn; exact hcutn, fun m hm => hrow.2 m (by simp [hm])⟩
  have hif := hrow.2 f (by simp)
  have hic := hrow.2 cl (by simp)
  obtain ⟨_, _, e, _, hnat⟩ := hrow.at1
  cases e
  obtain ⟨nb, no, rfl, hf0⟩ := hnat 0 f rfl
  obtain ⟨_, _, e, hf1⟩ := hnat 1 cl rfl
  cases e
  repeat (first|refine zJ rfl rfl ?_|refine jr rfl ?_|refine jn ?_|refine zM rfl rfl ?_|(refine zC rfl rfl ?_ rfl ?_;omega)|(refine zD rfl rfl ?_ rfl ?_;omega)|(refine zP rfl ?_ rfl ?_;omega)|refine zG rfl rfl rfl rfl ?_|(refine jdq rfl rfl ?_ ?_ ?_;kernel_rfl;kernel_rfl)|refine zB rfl rfl rfl (by repeat constructor) rfl ?_|refine zH .here rfl rfl rfl rfl ?_|refine zH (.there .here) rfl rfl rfl rfl ?_|refine zH (.there (.there .here)) rfl rfl rfl rfl ?_|refine zH (.there (.there (.there .here))) rfl rfl rfl rfl ?_|refine zH (.there (.there (.there (.there .here)))) rfl rfl rfl rfl ?_)
  refine ja F3 [] ?_ ?_ ?_; kernel_rfl
  · exact fun w s => s.bare
  refine aT 0 rfl (ev_qe rfl) rfl rfl ?_ ?_ ?_ ?_; kernel_rfl; kernel_rfl; kernel_rfl
  refine aT 1 rfl (ev_indexAddr (i := 0) rfl rfl rfl (by omega)) rfl rfl ?_ ?_ ?_ ?_; kernel_rfl; kernel_rfl; kernel_rfl
  refine aT 2 rfl (ev_load rfl rfl (Rdb.ofF hf0)) rfl rfl ?_ ?_ ?_ ?_; kernel_rfl; kernel_rfl; kernel_rfl
  refine aT 3 rfl (ev_qe rfl) rfl rfl ?_ ?_ ?_ ?_; kernel_rfl; kernel_rfl; kernel_rfl
  refine aT 4 rfl (ev_indexAddr (i := 1) rfl rfl rfl (by omega)) rfl rfl ?_ ?_ ?_ ?_; kernel_rfl; kernel_rfl; kernel_rfl
  refine aT 5 rfl (ev_load rfl rfl (Rdb.ofF hf1)) rfl rfl ?_ ?_ ?_ ?_; kernel_rfl; kernel_rfl; kernel_rfl
  refine aT 6 rfl (ev_qe rfl) rfl rfl ?_ ?_ ?_ ?_; kernel_rfl; kernel_rfl; kernel_rfl
  refine aT 7 rfl (ev_slice_lo (lo := 2) rfl rfl rfl (by omega)) rfl rfl ?_ ?_ ?_ ?_; kernel_rfl; kernel_rfl; kernel_rfl
  generalize cutV (some ⟨nb, no, none⟩) 1 nc 2 (f :: cl :: li).length nc = vli at *
  obtain ⟨lia, lic, rfl, _, _⟩ := hli.at1
  refine aT 8 rfl (ev_build (t := suC ⟨f, li, cl⟩ (.slice lia li.length lic)) rfl rfl rfl (by repeat (first | exact FillF.nil | refine FillF.cons (by constructor) rfl rfl (by repeat constructor) ?_))) rfl rfl ?_ ?_ ?_ ?_; kernel_rfl; kernel_rfl; kernel_rfl
  refine aB (i := 9) (by kernel_rfl) (aE rfl (ev_alloc (cs := suC zSu nl) rfl) rfl rfl (fun _ _ _ _ hq w s => by obtain ⟨e, _⟩ := hq; subst e; exact s.bare) ?_)
  rintro _ _ _ _ ⟨rfl, b7, rfl, rfl⟩
  refine aB (i := 10) (by kernel_rfl) (aN rfl (ev_store (vs := suC ⟨f, li, cl⟩ (.slice lia li.length lic)) rfl rfl .agg rfl rfl (lay_all (zs := suC zSu nl) rfl) (by unfold suC; (repeat (first | exact ones_nil | refine ones_cons rfl ?_))) .here) rfl (fun _ _ _ _ hq w s => by obtain ⟨e, _⟩ := hq; subst e; exact s.bare) ?_)
  rintro _ _ _ _ ⟨rfl, _, rfl⟩
  refine aD (by kernel_rfl) ?_
  generalize hK : L.tail.dropLast = K at *
  have hKl : K.length = n - 1 := by rw [← hK]; simp; omega
  have hcut := ((hv.mono hF2).mono hF3).cut (lo := 1) (hi := n) (by omega) (by omega)
  have hKe : (L.drop 1).take (n - 1) = K := by rw [← hK, List.dropLast_eq_take, List.length_tail, hn, List.drop_one]; rfl
  rw [hKe] at hcut
  repeat (first|refine zJ rfl rfl ?_|refine jr rfl ?_|refine jn ?_|refine zM rfl rfl ?_|(refine zC rfl rfl ?_ rfl ?_;omega)|(refine zD rfl rfl ?_ rfl ?_;omega)|(refine zP rfl ?_ rfl ?_;omega)|refine zG rfl rfl rfl rfl ?_|(refine jdq rfl rfl ?_ ?_ ?_;kernel_rfl;kernel_rfl)|refine zB rfl rfl rfl (by repeat constructor) rfl ?_|refine zH .here rfl rfl rfl rfl ?_|refine zH (.there .here) rfl rfl rfl rfl ?_|refine zH (.there (.there .here)) rfl rfl rfl rfl ?_|refine zH (.there (.there (.there .here))) rfl rfl rfl rfl ?_|refine zH (.there (.there (.there (.there .here)))) rfl rfl rfl rfl ?_)
  refine oS (ev_slice_lohi (lo := 1) (hi := n) rfl rfl (show opv _ _ = _ from congrArg (fun z : Int => some (Value.int .i64 z)) (by omega)) rfl (by omega) (by omega)) rfl ?_
  generalize cutV (some ⟨ab, ao, none⟩) 1 c 1 n c = vM at *
  have hKm := hcut.2
  obtain ⟨ma, mc, rfl, _, hmat⟩ := hcut.form
  have hKlen : ∀ x ∈ K, x.length ≤ t.length := fun x hx => hLm x (by rw [← hK] at hx; exact List.mem_of_mem_tail ((List.dropLast_sublist _).subset hx))
  repeat (first|refine zJ rfl rfl ?_|refine jr rfl ?_|refine jn ?_|refine zM rfl rfl ?_|(refine zC rfl rfl ?_ rfl ?_;omega)|(refine zD rfl rfl ?_ rfl ?_;omega)|(refine zP rfl ?_ rfl ?_;omega)|refine zG rfl rfl rfl rfl ?_|(refine jdq rfl rfl ?_ ?_ ?_;kernel_rfl;kernel_rfl)|refine zB rfl rfl rfl (by repeat constructor) rfl ?_|refine zH .here rfl rfl rfl rfl ?_|refine zH (.there .here) rfl rfl rfl rfl ?_|refine zH (.there (.there .here)) rfl rfl rfl rfl ?_|refine zH (.there (.there (.there .here))) rfl rfl rfl rfl ?_|refine zH (.there (.there (.there (.there .here)))) rfl rfl rfl rfl ?_)
  refine J_own_nil 40 17 ?_
  refine J_loop (ι := Nat × Value × List St × List (List Value) × PH) (fun p => p.1 ≤ K.length ∧ F3.le p.2.2.2.2 ∧ p.2.2.1.length = p.1 ∧ All2 (StCell p.2.2.2.2) p.2.2.1 p.2.2.2.1 ∧ parseAll (K.take p.1) = some p.2.2.1) (fun p => K.length - p.1) (fun p => [(2, .pointer (some ⟨b2, 0, none⟩)), (9, .pointer (some ⟨b7, 0, none⟩)), (10, p.2.1), (76, .slice ma K.length mc), (77, .int .i64 K.length), (78, .int .i64 p.1)]) (fun p => p.2.2.2.2)
    (fun p => own p.2.1 40 17 p.1 p.2.2.2.1.flatten :: blk b7 25 (suC ⟨f, li, cl⟩ (.slice lia li.length lic)) :: blk b2 25 (suC zSu nl) :: X) (0, .slice none 0 0, [], [], F3) ⟨Nat.zero_le _, PH.ler _, rfl, .nil, rfl⟩ ⟨⟨rfl, rfl, rfl, rfl, rfl, rfl, trivial⟩, fun w s => s⟩ ?_
  rintro ⟨j, u, l, css, G⟩ ⟨hj, hG, hll, hal, hpl⟩
  dsimp only at *
  by_cases hlt : j < K.length
  · obtain ⟨ln, hkw⟩ : ∃ ln, K[j]? = some ln := ⟨_, List.getElem?_eq_getElem hlt⟩
    have hlnl := hKlen ln (List.mem_of_getElem? hkw)
    obtain ⟨bj, oj, rfl, hcj⟩ := hmat j ln hkw
    repeat (first|refine zJ rfl rfl ?_|refine jr rfl ?_|refine jn ?_|refine zM rfl rfl ?_|(refine zC rfl rfl ?_ rfl ?_;omega)|(refine zD rfl rfl ?_ rfl ?_;omega)|(refine zP rfl ?_ rfl ?_;omega)|refine zG rfl rfl rfl rfl ?_|(refine jdq rfl rfl ?_ ?_ ?_;kernel_rfl;kernel_rfl)|refine zB rfl rfl rfl (by repeat constructor) rfl ?_|refine zH .here rfl rfl rfl rfl ?_|refine zH (.there .here) rfl rfl rfl rfl ?_|refine zH (.there (.there .here)) rfl rfl rfl rfl ?_|refine zH (.there (.there (.there .here))) rfl rfl rfl rfl ?_|refine zH (.there (.there (.there (.there .here)))) rfl rfl rfl rfl ?_)
    refine oS (ev_indexAddr rfl rfl rfl hlt) rfl ?_
    refine oS (ev_load rfl rfl (Rdb.ofF (hcj.mono hG))) rfl ?_
    repeat (first|refine zJ rfl rfl ?_|refine jr rfl ?_|refine jn ?_|refine zM rfl rfl ?_|(refine zC rfl rfl ?_ rfl ?_;omega)|(refine zD rfl rfl ?_ rfl ?_;omega)|(refine zP rfl ?_ rfl ?_;omega)|refine zG rfl rfl rfl rfl ?_|(refine jdq rfl rfl ?_ ?_ ?_;kernel_rfl;kernel_rfl)|refine zB rfl rfl rfl (by repeat constructor) rfl ?_|refine zH .here rfl rfl rfl rfl ?_|refine zH (.there .here) rfl rfl rfl rfl ?_|refine zH (.there (.there .here)) rfl rfl rfl rfl ?_|refine zH (.there (.there (.there .here))) rfl rfl rfl rfl ?_|refine zH (.there (.there (.there (.there .here)))) rfl rfl rfl rfl ?_)
    refine oC (Hc := []) (Hr := _ :: _ :: _ :: X) (dparse_spec ln (by omega) G) Tryz.call17 rfl rfl (fun _ s => s) ?_
    rintro _ G1 _ hG1 ⟨rfl, y, vo, vb, vt, ok2, rfl, hy, hyl, hmatch⟩
    have hones := hy.ones
    repeat (first|refine zJ rfl rfl ?_|refine jr rfl ?_|refine jn ?_|refine zM rfl rfl ?_|(refine zC rfl rfl ?_ rfl ?_;omega)|(refine zD rfl rfl ?_ rfl ?_;omega)|(refine zP rfl ?_ rfl ?_;omega)|refine zG rfl rfl rfl rfl ?_|(refine jdq rfl rfl ?_ ?_ ?_;kernel_rfl;kernel_rfl)|refine zB rfl rfl rfl (by repeat constructor) rfl ?_|refine zH .here rfl rfl rfl rfl ?_|refine zH (.there .here) rfl rfl rfl rfl ?_|refine zH (.there (.there .here)) rfl rfl rfl rfl ?_|refine zH (.there (.there (.there .here))) rfl rfl rfl rfl ?_|refine zH (.there (.there (.there (.there .here)))) rfl rfl rfl rfl ?_)
    refine oE (ev_alloc (cs := zStC) rfl) rfl ?_
    rintro _ _ _ _ ⟨rfl, b12, rfl, rfl⟩
    refine oN (ev_store (vs := stC y vo vb vt) rfl rfl .agg rfl rfl (lay_all (zs := zStC) rfl) hones .here) rfl ?_
    rintro _ _ _ _ ⟨rfl, _, rfl⟩
    cases hp : parseP (splW 32 ln) with
    | none =>
      rw [hp] at hmatch
      obtain ⟨rfl, rfl⟩ := hmatch
      have hp9 : parseT t = none := by rw [hPT2, parseAll_bad K j ln hkw hp]; rfl
      repeat (first|refine zJ rfl rfl ?_|refine jr rfl ?_|refine jn ?_|refine zM rfl rfl ?_|(refine zC rfl rfl ?_ rfl ?_;omega)|(refine zD rfl rfl ?_ rfl ?_;omega)|(refine zP rfl ?_ rfl ?_;omega)|refine zG rfl rfl rfl rfl ?_|(refine jdq rfl rfl ?_ ?_ ?_;kernel_rfl;kernel_rfl)|refine zB rfl rfl rfl (by repeat constructor) rfl ?_|refine zH .here rfl rfl rfl rfl ?_|refine zH (.there .here) rfl rfl rfl rfl ?_|refine zH (.there (.there .here)) rfl rfl rfl rfl ?_|refine zH (.there (.there (.there .here))) rfl rfl rfl rfl ?_|refine zH (.there (.there (.there (.there .here)))) rfl rfl rfl rfl ?_)
      refine oN (ev_store (vs := suC zSu nl) rfl rfl .agg rfl rfl (lay_all (zs := suC zSu nl) rfl) (by unfold suC nl; (repeat (first | exact ones_nil | refine ones_cons rfl ?_))) (.there (.there (.there .here)))) rfl ?_
      rintro _ _ _ _ ⟨rfl, _, rfl⟩
      repeat (first|refine zJ rfl rfl ?_|refine jr rfl ?_|refine jn ?_|refine zM rfl rfl ?_|(refine zC rfl rfl ?_ rfl ?_;omega)|(refine zD rfl rfl ?_ rfl ?_;omega)|(refine zP rfl ?_ rfl ?_;omega)|refine zG rfl rfl rfl rfl ?_|(refine jdq rfl rfl ?_ ?_ ?_;kernel_rfl;kernel_rfl)|refine zB rfl rfl rfl (by repeat constructor) rfl ?_|refine zH .here rfl rfl rfl rfl ?_|refine zH (.there .here) rfl rfl rfl rfl ?_|refine zH (.there (.there .here)) rfl rfl rfl rfl ?_|refine zH (.there (.there (.there .here))) rfl rfl rfl rfl ?_|refine zH (.there (.there (.there (.there .here)))) rfl rfl rfl rfl ?_)
      exact J_retv (vs := [.agg (suC zSu nl).toArray, nl, .int .i64 2]) rfl (.agg rfl rfl (Rdb.ofB (n := 0) (.there (.there (.there .here))) rfl) rfl (.tmp rfl (.tmp rfl .nil))) [] (fun w s => s.drop.drop.drop.drop) (hle3.trans (hG.trans hG1)) ⟨rfl, zSu, nl, [], nl, 2, rfl, zSu_ok G1, StRow.nil G1, .inl ⟨hp9, rfl, rfl, rfl⟩⟩
    | some z =>
      rw [hp] at hmatch
      obtain ⟨rfl, rfl⟩ := hmatch
      repeat (first|refine zJ rfl rfl ?_|refine jr rfl ?_|refine jn ?_|refine zM rfl rfl ?_|(refine zC rfl rfl ?_ rfl ?_;omega)|(refine zD rfl rfl ?_ rfl ?_;omega)|(refine zP rfl ?_ rfl ?_;omega)|refine zG rfl rfl rfl rfl ?_|(refine jdq rfl rfl ?_ ?_ ?_;kernel_rfl;kernel_rfl)|refine zB rfl rfl rfl (by repeat constructor) rfl ?_|refine zH .here rfl rfl rfl rfl ?_|refine zH (.there .here) rfl rfl rfl rfl ?_|refine zH (.there (.there .here)) rfl rfl rfl rfl ?_|refine zH (.there (.there (.there .here))) rfl rfl rfl rfl ?_|refine zH (.there (.there (.there (.there .here)))) rfl rfl rfl rfl ?_)
      refine oS (ev_load_agg (cs := stC y vo vb vt) rfl rfl (Rdb.ofB (n := 0) .here rfl) rfl) rfl ?_
      refine oA (size := 17) (bytes := 200) (vs := stC y vo vb vt) (n := j) (xs := css.flatten) (K := fun v' => blk b12 40 (stC y vo vb vt) :: own v' 40 17 (j + 1) (css.flatten ++ stC y vo vb vt) :: blk b7 25 (suC ⟨f, li, cl⟩ (.slice lia li.length lic)) :: blk b2 25 (suC zSu nl) :: X) (fun _ => rfl) rfl .agg rfl elSt hones (by omega) (fun v' => .there .here) rfl (fun _ => rfl) fun u2 w2 => ?_
      repeat (first|refine zJ rfl rfl ?_|refine jr rfl ?_|refine jn ?_|refine zM rfl rfl ?_|(refine zC rfl rfl ?_ rfl ?_;omega)|(refine zD rfl rfl ?_ rfl ?_;omega)|(refine zP rfl ?_ rfl ?_;omega)|refine zG rfl rfl rfl rfl ?_|(refine jdq rfl rfl ?_ ?_ ?_;kernel_rfl;kernel_rfl)|refine zB rfl rfl rfl (by repeat constructor) rfl ?_|refine zH .here rfl rfl rfl rfl ?_|refine zH (.there .here) rfl rfl rfl rfl ?_|refine zH (.there (.there .here)) rfl rfl rfl rfl ?_|refine zH (.there (.there (.there .here))) rfl rfl rfl rfl ?_|refine zH (.there (.there (.there (.there .here)))) rfl rfl rfl rfl ?_)
      refine J_again (ι := Nat × Value × List St × List (List Value) × PH) (j + 1, u2, l ++ [y], css ++ [stC y vo vb vt], G1) ⟨hlt, hG.trans hG1, by simp [hll], (hal.mono fun _ _ h => StCell.mono h hG1).snoc1 ⟨vo, vb, vt, rfl, hy, hyl⟩, ?_⟩ (by dsimp only; omega) ⟨⟨rfl, rfl, rfl, rfl, rfl, rfl, trivial⟩, fun w s => ?_⟩
      · dsimp only
        rw [List.take_add_one, hkw, Option.toList_some, parseAll_snoc, hpl, Option.bind_some, hp]
        rfl
      · dsimp only
        rw [List.flatten_append, List.flatten_singleton]
        exact s.drop
  · obtain rfl : j = K.length := by omega
    rw [List.take_length] at hpl
    refine J_persist fun hh hA hd => ?_
    have hos := own_slice hA hd
    have hG9 := PH.le_l G hh
    generalize G.un hh = G9 at *
    have hrowS : StRow G9 u l := ⟨css, by rw [hll]; exact hos, hal.mono fun _ _ h => StCell.mono h hG9⟩
    repeat (first|refine zJ rfl rfl ?_|refine jr rfl ?_|refine jn ?_|refine zM rfl rfl ?_|(refine zC rfl rfl ?_ rfl ?_;omega)|(refine zD rfl rfl ?_ rfl ?_;omega)|(refine zP rfl ?_ rfl ?_;omega)|refine zG rfl rfl rfl rfl ?_|(refine jdq rfl rfl ?_ ?_ ?_;kernel_rfl;kernel_rfl)|refine zB rfl rfl rfl (by repeat constructor) rfl ?_|refine zH .here rfl rfl rfl rfl ?_|refine zH (.there .here) rfl rfl rfl rfl ?_|refine zH (.there (.there .here)) rfl rfl rfl rfl ?_|refine zH (.there (.there (.there .here))) rfl rfl rfl rfl ?_|refine zH (.there (.there (.there (.there .here)))) rfl rfl rfl rfl ?_)
    refine oS (ev_load_agg (cs := suC ⟨f, li, cl⟩ (.slice lia li.length lic)) rfl rfl (Rdb.ofB (n := 0) .here rfl) rfl) rfl ?_
    repeat (first|refine zJ rfl rfl ?_|refine jr rfl ?_|refine jn ?_|refine zM rfl rfl ?_|(refine zC rfl rfl ?_ rfl ?_;omega)|(refine zD rfl rfl ?_ rfl ?_;omega)|(refine zP rfl ?_ rfl ?_;omega)|refine zG rfl rfl rfl rfl ?_|(refine jdq rfl rfl ?_ ?_ ?_;kernel_rfl;kernel_rfl)|refine zB rfl rfl rfl (by repeat constructor) rfl ?_|refine zH .here rfl rfl rfl rfl ?_|refine zH (.there .here) rfl rfl rfl rfl ?_|refine zH (.there (.there .here)) rfl rfl rfl rfl ?_|refine zH (.there (.there (.there .here))) rfl rfl rfl rfl ?_|refine zH (.there (.there (.there (.there .here)))) rfl rfl rfl rfl ?_)
    refine oN (ev_store rfl rfl .agg rfl rfl (lay_all (zs := suC zSu nl) rfl) (by unfold suC; (repeat (first | exact ones_nil | refine ones_cons rfl ?_))) (.there .here)) rfl ?_
    rintro _ _ _ _ ⟨rfl, _, rfl⟩
    repeat (first|refine zJ rfl rfl ?_|refine jr rfl ?_|refine jn ?_|refine zM rfl rfl ?_|(refine zC rfl rfl ?_ rfl ?_;omega)|(refine zD rfl rfl ?_ rfl ?_;omega)|(refine zP rfl ?_ rfl ?_;omega)|refine zG rfl rfl rfl rfl ?_|(refine jdq rfl rfl ?_ ?_ ?_;kernel_rfl;kernel_rfl)|refine zB rfl rfl rfl (by repeat constructor) rfl ?_|refine zH .here rfl rfl rfl rfl ?_|refine zH (.there .here) rfl rfl rfl rfl ?_|refine zH (.there (.there .here)) rfl rfl rfl rfl ?_|refine zH (.there (.there (.there .here))) rfl rfl rfl rfl ?_|refine zH (.there (.there (.there (.there .here)))) rfl rfl rfl rfl ?_)
    refine J_retv (vs := [.agg (suC ⟨f, li, cl⟩ (.slice lia li.length lic)).toArray, u, .int .i64 0]) rfl (.agg rfl rfl (Rdb.ofB (n := 0) (.there .here) rfl) rfl (.tmp rfl (.tmp rfl .nil))) [] (fun w s => s.drop.drop) (hle3.trans (hG.trans hG9)) ⟨rfl, ⟨f, li, cl⟩, _, l, u, 0, rfl, ⟨hif, hic, hli.mono (hG.trans hG9)⟩, hrowS, .inr ⟨?_, rfl⟩⟩
    rw [hPT2, hpl]
    rfl
theorem StRow.cells {F : PH} {a : Option Addr} {n c : Nat} {L : List St} (h : StRow F (.slice a n c) L) : n = L.length ∧ ∀ i x, L[i]? = some x → ∃ b off vo vb vt, a = some ⟨b, off, none⟩ ∧ Cells F b (off + i * 17) (stC x vo vb vt) ∧ StOk F x vo vb vt := by
  obtain ⟨css, h1, h2⟩ := h
  obtain ⟨_, a', c', e, _, _⟩ := id h1
  injection e with e1 e2 e3
  subst e1 e2 e3
  refine ⟨rfl, fun i x hi => ?_⟩
  obtain ⟨r, hr, vo, vb, vt, rfl, hok, _⟩ := h2.at hi
  have h17 : ∀ c ∈ css, c.length = 17 := fun c hc => by
    obtain ⟨y, _, vo, vb, vt, e, _⟩ := h2.right c hc
    rw [e]; rfl
  obtain ⟨b, off, e, hc⟩ := SliceV.row h1 h17 hr (List.getElem?_eq_some_iff.1 hi).1
  exact ⟨b, off, vo, vb, vt, e, hc, hok⟩
theorem first_len {W : List W8} {x : Su} (h : firstR W = some x) : x.liars.length ≤ W.length := by
  unfold firstR at h
  split at h
  · rw [firstN_plain] at h
    cases e : allW numW W.tail with
    | none => rw [e] at h; cases h
    | some l =>
      have hl := allW_len e
      rw [List.length_tail] at hl
      rw [e] at h
      match l, hl, h with
      | [], _, h => cases h
      | [_], _, h => cases h
      | f :: c :: li, hl, h => cases h; simp at hl ⊢; omega
  · cases h
theorem parseAll_mem : ∀ {K : List W8} {l : List St}, parseAll K = some l → ∀ x ∈ l, ∃ ln ∈ K, parseP (splW 32 ln) = some x
  | [], l, h, x, hx => by cases h; cases hx
  | t :: r, l, h, x, hx => by
    rw [parseAll_cons] at h
    cases e : parseP (splW 32 t) with
    | none => rw [e] at h; cases h
    | some y =>
      rw [e, Option.bind_some] at h
      cases e2 : parseAll r with
      | none => rw [e2] at h; cases h
      | some m =>
        rw [e2] at h
        cases h
        rcases List.mem_cons.1 hx with rfl | hx
        · exact ⟨t, by simp, e⟩
        · obtain ⟨ln, h1, h2⟩ := parseAll_mem e2 x hx
          exact ⟨ln, by simp [h1], h2⟩
theorem parseAll_len : ∀ {K : List W8} {l : List St}, parseAll K = some l → l.length = K.length
  | [], l, h => by cases h; rfl
  | t :: r, l, h => by
    rw [parseAll_cons] at h
    cases e : parseP (splW 32 t) with
    | none => rw [e] at h; cases h
    | some y =>
      rw [e, Option.bind_some] at h
      cases e2 : parseAll r with
      | none => rw [e2] at h; cases h
      | some m => rw [e2] at h; cases h; rw [List.length_cons, List.length_cons, parseAll_len e2]
theorem parseT_cnt {t : W8} {su : Su} {l : List St} (h : parseT t = some (su, l)) : l.length ≤ t.length := by
  unfold parseT at h
  split at h
  · cases e : firstR (splW 32 ((splW 10 t).headD [])) with
    | none => rw [e] at h; cases h
    | some x =>
      rw [e, Option.bind_some] at h
      cases e2 : parseAll ((splW 10 t).tail.dropLast) with
      | none => rw [e2] at h; cases h
      | some m =>
        rw [e2] at h
        cases h
        have h1 := parseAll_len e2
        have h2 := splW_len_le 10 t
        rw [List.length_dropLast, List.length_tail] at h1
        omega
  · cases h
theorem parseT_len {t : W8} {su : Su} {l : List St} (h : parseT t = some (su, l)) : su.liars.length ≤ t.length + 1 ∧ ∀ x ∈ l, x.orgs.length ≤ t.length + 1 ∧ x.tags.length ≤ t.length + 1 := by
  unfold parseT at h
  split at h
  · rename_i h0
    cases e : firstR (splW 32 ((splW 10 t).headD [])) with
    | none => rw [e] at h; cases h
    | some x =>
      rw [e, Option.bind_some] at h
      cases e2 : parseAll ((splW 10 t).tail.dropLast) with
      | none => rw [e2] at h; cases h
      | some m =>
        rw [e2] at h
        cases h
        have hm := splW_mem 10 t
        have hne := splW_ne 10 t
        refine ⟨?_, fun y hy => ?_⟩
        · have h1 := first_len e
          have h2 := splW_len_le 32 ((splW 10 t).headD [])
          have h3 : ((splW 10 t).headD []).length ≤ t.length := by
            cases hs : splW 10 t with
            | nil => exact absurd hs hne
            | cons w r => rw [hs] at hm; exact hm w (by simp)
          omega
        · obtain ⟨ln, h1, h2⟩ := parseAll_mem e2 y hy
          have h3 := hm ln (List.mem_of_mem_tail ((List.dropLast_sublist _).subset h1))
          have h4 := parseP_len h2
          have h5 := splW_len_le 32 ln
          exact ⟨by omega, by omega⟩
  · cases h
end Go.Proofs.YtekdmpbkcjjllaaGreatDoor
