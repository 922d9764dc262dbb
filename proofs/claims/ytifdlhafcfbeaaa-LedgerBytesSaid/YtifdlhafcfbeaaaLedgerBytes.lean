/-
  A ledger's bytes are the document's, and tell it again; of one that may not be there are none (LedgerBytes). No condition.
-/
import Derived.Test.YtifdlhafcfbeaaaDm
namespace Go.Proofs.Ytifdlhafcfbeaaa
open Go.RowKit
set_option maxRecDepth 100000
/-- What the law asks of two ledgers. -/
theorem bytes_same {l m : LgX} (hl : rightL l = true) : decide ((if rightL m then bytesL m else []) = bytesL l) = sameL l m := by
  have hs : sameL l m = decide (l = m) := by
    obtain ⟨a1, a2, a3, a4, _⟩ := l
    obtain ⟨b1, b2, b3, b4, _⟩ := m
    unfold sameL
    dsimp only
    by_cases h : a1 = b1 ∧ a2 = b2 ∧ a3 = b3 ∧ a4 = b4
    · obtain ⟨rfl, rfl, rfl, rfl⟩ := h
      rw [decide_eq_true ⟨rfl, rfl, rfl, rfl⟩, decide_eq_true rfl]
    · rw [decide_eq_false h, decide_eq_false]
      intro e
      simp only [Prod.mk.injEq, and_true] at e
      exact h e
  rw [hs]
  by_cases e : l = m
  · subst e
    rw [if_pos hl, decide_eq_true rfl, decide_eq_true rfl]
  · rw [decide_eq_false e, decide_eq_false]
    intro h
    cases hm : rightL m with
    | true =>
      rw [hm, if_pos rfl] at h
      exact e (bytesL_inj hm hl h).symm
    | false =>
      rw [hm, if_neg (by decide)] at h
      exact bytesL_ne l h.symm
set_option maxHeartbeats 16000000 in
theorem LedgerBytes_walk (l m : LgX) (cs cm : List Value) (F : PH) (hl : LgIn F cs l) (hm : LgIn F cm m) : Spec Try.prog 5 [.agg cs.toArray, .agg cm.toArray] F [] fun u F' H' => u = .bool true ∧ H' = [] := by
  obtain ⟨hv, k1, k2, kn, km, ks⟩ := hl
  obtain ⟨hv', k1', k2', kn', km', ks'⟩ := hm
  obtain ⟨vl, vo, ecs, hL, hO⟩ := id hv
  obtain ⟨vl', vo', ecm, hL', hO'⟩ := id hv'
  obtain ⟨al, cl, rfl, _⟩ := hL.form
  obtain ⟨ao, co, rfl, _⟩ := hO.form
  obtain ⟨al', cl', rfl, _⟩ := hL'.form
  obtain ⟨ao', co', rfl, _⟩ := hO'.form
  have lc : cs.length = 4 := by rw [ecs]; rfl
  have lc' : cm.length = 4 := by rw [ecm]; rfl
  have oc : Ones cs := by rw [ecs]; exact lgC_ones
  have oc' : Ones cm := by rw [ecm]; exact lgC_ones
  clear hL hO hL' hO' ecs ecm
  refine Spec.of2 Try.func5 rfl rfl fun X w0 => ?_
  refine jc rfl rfl ?_
  refine jr rfl ?_
  refine oE (ev_box rfl .agg) rfl ?_
  rintro _ _ _ _ ⟨rfl, b2, rfl, rfl⟩
  refine oE (ev_box rfl .agg) rfl ?_
  rintro _ _ _ _ ⟨rfl, b3, rfl, rfl⟩
  repeat (first|refine zJ rfl rfl ?_|refine jr rfl ?_|refine jn ?_|refine zM rfl rfl ?_|(refine zC rfl rfl ?_ rfl ?_;omega)|(refine zD rfl rfl ?_ rfl ?_;omega)|(refine zP rfl ?_ rfl ?_;omega)|refine zG rfl rfl rfl rfl ?_|(refine jdq rfl rfl ?_ ?_ ?_;kernel_rfl;kernel_rfl)|refine zB rfl rfl rfl (by repeat constructor) rfl ?_)
  refine oC (Hc := []) (Hr := blk b3 27 cm :: blk b2 27 cs :: X) (fixed11_spec F) Try.call7 rfl rfl (fun _ s => s) ?_
  rintro _ F1 _ hF1 ⟨rfl, rfl⟩
  repeat (first|refine zJ rfl rfl ?_|refine jr rfl ?_|refine jn ?_|refine zM rfl rfl ?_|(refine zC rfl rfl ?_ rfl ?_;omega)|(refine zD rfl rfl ?_ rfl ?_;omega)|(refine zP rfl ?_ rfl ?_;omega)|refine zG rfl rfl rfl rfl ?_|(refine jdq rfl rfl ?_ ?_ ?_;kernel_rfl;kernel_rfl)|refine zB rfl rfl rfl (by repeat constructor) rfl ?_)
  replace hv := hv.mono hF1
  replace hv' := hv'.mono hF1
  have sf := few_spec l cs F1 hv kn km ks
  have sf' := few_spec m cm F1 hv' kn' km' ks'
  refine oS (ev_load_agg (cs := cs) rfl rfl (Rdb.ofB (n := 0) (.there .here) (by rw [List.drop_zero, List.take_length])) lc) rfl ?_
  cases hf : fewB l with
  | false =>
    rw [hf] at sf
    refine oP (sf) Try.call12 rfl rfl ?_
    repeat (first|refine zJ rfl rfl ?_|refine jr rfl ?_|refine jn ?_|refine zM rfl rfl ?_|(refine zC rfl rfl ?_ rfl ?_;omega)|(refine zD rfl rfl ?_ rfl ?_;omega)|(refine zP rfl ?_ rfl ?_;omega)|refine zG rfl rfl rfl rfl ?_|(refine jdq rfl rfl ?_ ?_ ?_;kernel_rfl;kernel_rfl)|refine zB rfl rfl rfl (by repeat constructor) rfl ?_)
    exact J_retv rfl (.tmp rfl .nil) [] (fun w s => s.drop.drop) hF1 ⟨rfl, rfl⟩
  | true =>
  rw [hf] at sf
  refine oP (sf) Try.call12 rfl rfl ?_
  repeat (first|refine zJ rfl rfl ?_|refine jr rfl ?_|refine jn ?_|refine zM rfl rfl ?_|(refine zC rfl rfl ?_ rfl ?_;omega)|(refine zD rfl rfl ?_ rfl ?_;omega)|(refine zP rfl ?_ rfl ?_;omega)|refine zG rfl rfl rfl rfl ?_|(refine jdq rfl rfl ?_ ?_ ?_;kernel_rfl;kernel_rfl)|refine zB rfl rfl rfl (by repeat constructor) rfl ?_)
  refine oS (ev_load_agg (cs := cm) rfl rfl (Rdb.ofB (n := 0) .here (by rw [List.drop_zero, List.take_length])) lc') rfl ?_
  cases hf' : fewB m with
  | false =>
    rw [hf'] at sf'
    refine oP (sf') Try.call12 rfl rfl ?_
    repeat (first|refine zJ rfl rfl ?_|refine jr rfl ?_|refine jn ?_|refine zM rfl rfl ?_|(refine zC rfl rfl ?_ rfl ?_;omega)|(refine zD rfl rfl ?_ rfl ?_;omega)|(refine zP rfl ?_ rfl ?_;omega)|refine zG rfl rfl rfl rfl ?_|(refine jdq rfl rfl ?_ ?_ ?_;kernel_rfl;kernel_rfl)|refine zB rfl rfl rfl (by repeat constructor) rfl ?_)
    exact J_retv rfl (.tmp rfl .nil) [] (fun w s => s.drop.drop) hF1 ⟨rfl, rfl⟩
  | true =>
  rw [hf'] at sf'
  refine oP (sf') Try.call12 rfl rfl ?_
  repeat (first|refine zJ rfl rfl ?_|refine jr rfl ?_|refine jn ?_|refine zM rfl rfl ?_|(refine zC rfl rfl ?_ rfl ?_;omega)|(refine zD rfl rfl ?_ rfl ?_;omega)|(refine zP rfl ?_ rfl ?_;omega)|refine zG rfl rfl rfl rfl ?_|(refine jdq rfl rfl ?_ ?_ ?_;kernel_rfl;kernel_rfl)|refine zB rfl rfl rfl (by repeat constructor) rfl ?_)
  obtain ⟨n1, n2, n3⟩ := fewB_ok hf
  obtain ⟨n1', n2', n3'⟩ := fewB_ok hf'
  have sb := lbytes_spec l cs F1 hv k2 n1 n2 n3
  have hsm := bytes_same (l := l) (m := m)
  refine oS (ev_load_agg (cs := cs) rfl rfl (Rdb.ofB (n := 0) (.there .here) (by rw [List.drop_zero, List.take_length])) lc) rfl ?_
  refine oC (Hc := []) (Hr := blk b3 27 cm :: blk b2 27 cs :: X) sb Try.call11 rfl rfl (fun _ s => s) ?_
  rintro u F2 _ hF2 ⟨rfl, hu⟩
  obtain ⟨au, cu, rfl, _⟩ := hu.form
  replace hv := hv.mono hF2
  replace hv' := hv'.mono hF2
  have hle2 := hF1.trans hF2
  clear hF1 hF2 sf sf' sb
  repeat (first|refine zJ rfl rfl ?_|refine jr rfl ?_|refine jn ?_|refine zM rfl rfl ?_|(refine zC rfl rfl ?_ rfl ?_;omega)|(refine zD rfl rfl ?_ rfl ?_;omega)|(refine zP rfl ?_ rfl ?_;omega)|refine zG rfl rfl rfl rfl ?_|(refine jdq rfl rfl ?_ ?_ ?_;kernel_rfl;kernel_rfl)|refine zB rfl rfl rfl (by repeat constructor) rfl ?_)
  -- the first question
  have sc := lcheck_spec l cs F2 hv k2 (by omega) (by omega) n3
  have sr := Right_spec l cs F2 hv (by omega) (by omega) n3
  have s1 := lsame_spec l m cs cm F2 hv hv' kn km kn' km'
  have s2 := Lsame_spec l m cs cm F2 hv hv' kn km kn' km'
  refine ja F2 [blk b3 27 cm, blk b2 27 cs] ?_ (fun w s => Sat.left (A := [_, _]) s) ?_; kernel_rfl
  refine aT 0 rfl (ev_load_agg (cs := cs) rfl rfl (Rdb.ofB (n := 0) (.there .here) (by rw [List.drop_zero, List.take_length])) lc) rfl rfl ?_ ?_ ?_ ?_; kernel_rfl; kernel_rfl; kernel_rfl
  refine aT 3 rfl (ev_load_agg (cs := cs) rfl rfl (Rdb.ofB (n := 0) (.there .here) (by rw [List.drop_zero, List.take_length])) lc) rfl rfl ?_ ?_ ?_ ?_; kernel_rfl; kernel_rfl; kernel_rfl
  refine aB (i := 1) (by kernel_rfl) (aP rfl sc Try.call23 rfl rfl rfl (fun _ s => Sat.left (A := [_, _]) s) ?_)
  generalize hr : rightL l = r at *
  have e1 : decide ((if r = true then (0 : Int) else 2) = 0) = r := by cases r <;> rfl
  refine aT 2 rfl (eg (b := r) rfl rfl (congrArg some e1)) rfl rfl ?_ ?_ ?_ ?_; kernel_rfl; kernel_rfl; kernel_rfl
  refine aB (i := 4) (by kernel_rfl) (aP rfl sr Try.call24 rfl rfl rfl (fun _ s => Sat.left (A := [_, _]) s) ?_)
  refine aT 5 rfl (ev_bneqR (r := false) rfl rfl Try.underlying4 (by cases r <;> rfl)) rfl rfl ?_ ?_ ?_ ?_; kernel_rfl; kernel_rfl; kernel_rfl
  refine aT 6 rfl (ev_qe rfl) rfl rfl ?_ ?_ ?_ ?_; kernel_rfl; kernel_rfl; kernel_rfl
  refine aT 7 rfl (ev_load_agg (cs := cs) rfl rfl (Rdb.ofB (n := 0) (.there .here) (by rw [List.drop_zero, List.take_length])) lc) rfl rfl ?_ ?_ ?_ ?_; kernel_rfl; kernel_rfl; kernel_rfl
  refine aT 8 rfl (ev_load_agg (cs := cm) rfl rfl (Rdb.ofB (n := 0) .here (by rw [List.drop_zero, List.take_length])) lc') rfl rfl ?_ ?_ ?_ ?_; kernel_rfl; kernel_rfl; kernel_rfl
  refine aT 10 rfl (ev_load_agg (cs := cs) rfl rfl (Rdb.ofB (n := 0) (.there .here) (by rw [List.drop_zero, List.take_length])) lc) rfl rfl ?_ ?_ ?_ ?_; kernel_rfl; kernel_rfl; kernel_rfl
  refine aT 11 rfl (ev_load_agg (cs := cm) rfl rfl (Rdb.ofB (n := 0) .here (by rw [List.drop_zero, List.take_length])) lc') rfl rfl ?_ ?_ ?_ ?_; kernel_rfl; kernel_rfl; kernel_rfl
  refine aB (i := 9) (by kernel_rfl) (aP rfl s1 Try.call25 rfl rfl rfl (fun _ s => Sat.left (A := [_, _]) s) ?_)
  refine aB (i := 12) (by kernel_rfl) (aP rfl s2 Try.call10 rfl rfl rfl (fun _ s => Sat.left (A := [_, _]) s) ?_)
  refine aT 13 rfl (ev_bneqR (r := false) rfl rfl Try.underlying4 (by cases sameL l m <;> rfl)) rfl rfl ?_ ?_ ?_ ?_; kernel_rfl; kernel_rfl; kernel_rfl
  refine aT 14 rfl (ev_qe rfl) rfl rfl ?_ ?_ ?_ ?_; kernel_rfl; kernel_rfl; kernel_rfl
  refine aD (by kernel_rfl) ?_
  repeat (first|refine zJ rfl rfl ?_|refine jr rfl ?_|refine jn ?_|refine zM rfl rfl ?_|(refine zC rfl rfl ?_ rfl ?_;omega)|(refine zD rfl rfl ?_ rfl ?_;omega)|(refine zP rfl ?_ rfl ?_;omega)|refine zG rfl rfl rfl rfl ?_|(refine jdq rfl rfl ?_ ?_ ?_;kernel_rfl;kernel_rfl)|refine zB rfl rfl rfl (by repeat constructor) rfl ?_)
  refine oS (ev_load_agg (cs := cs) rfl rfl (Rdb.ofB (n := 0) (.there .here) (by rw [List.drop_zero, List.take_length])) lc) rfl ?_
  cases r with
  | false =>
    rw [if_neg (by decide)] at hu ⊢
    refine oP (sr) Try.call24 rfl rfl ?_
    repeat (first|refine zJ rfl rfl ?_|refine jr rfl ?_|refine jn ?_|refine zM rfl rfl ?_|(refine zC rfl rfl ?_ rfl ?_;omega)|(refine zD rfl rfl ?_ rfl ?_;omega)|(refine zP rfl ?_ rfl ?_;omega)|refine zG rfl rfl rfl rfl ?_|(refine jdq rfl rfl ?_ ?_ ?_;kernel_rfl;kernel_rfl)|refine zB rfl rfl rfl (by repeat constructor) rfl ?_)
    exact J_retv rfl (.tmp rfl .nil) [] (fun w s => s.drop.drop) hle2 ⟨rfl, rfl⟩
  | true =>
  rw [if_pos rfl] at hu ⊢
  refine oP (sr) Try.call24 rfl rfl ?_
  repeat (first|refine zJ rfl rfl ?_|refine jr rfl ?_|refine jn ?_|refine zM rfl rfl ?_|(refine zC rfl rfl ?_ rfl ?_;omega)|(refine zD rfl rfl ?_ rfl ?_;omega)|(refine zP rfl ?_ rfl ?_;omega)|refine zG rfl rfl rfl rfl ?_|(refine jdq rfl rfl ?_ ?_ ?_;kernel_rfl;kernel_rfl)|refine zB rfl rfl rfl (by repeat constructor) rfl ?_)
  replace hsm := hsm rfl
  have hlen : (bytesL l).length ≤ 1048576 := by
    have h1 := flat_lt n3 (by omega) l.2.2.1.length
    have h2 := flat_ou (L := l.2.2.2.1) (by omega) l.2.2.2.1.length
    rw [List.take_length] at h1 h2
    unfold bytesL
    simp only [List.length_append, lgPre_len, pl2]
    omega
  have sp := lparse_spec (.slice au (bytesL l).length cu) (bytesL l) F2 hu hlen
  rw [parse_bytes hr] at sp
  refine oC (Hc := []) (Hr := blk b3 27 cm :: blk b2 27 cs :: X) sp Try.call8 rfl rfl (fun _ s => s) ?_
  rintro _ F3 _ hF3 ⟨rfl, cx, rfl, hvx⟩
  dsimp only at hvx ⊢
  have hux := hu.mono' hF3
  replace hv := hv.mono hF3
  replace hv' := hv'.mono hF3
  have hle3 := hle2.trans hF3
  clear hF3 hle2 hu sc sr s1 s2 sp
  obtain ⟨vlx, vox, ecx, hLx, hOx⟩ := id hvx
  obtain ⟨alx, clx, rfl, _⟩ := hLx.form
  obtain ⟨aox, cox, rfl, _⟩ := hOx.form
  have lcx : cx.length = 4 := by rw [ecx]; rfl
  have ocx : Ones cx := by rw [ecx]; exact lgC_ones
  clear ecx hLx hOx
  repeat (first|refine zJ rfl rfl ?_|refine jr rfl ?_|refine jn ?_|refine zM rfl rfl ?_|(refine zC rfl rfl ?_ rfl ?_;omega)|(refine zD rfl rfl ?_ rfl ?_;omega)|(refine zP rfl ?_ rfl ?_;omega)|refine zG rfl rfl rfl rfl ?_|(refine jdq rfl rfl ?_ ?_ ?_;kernel_rfl;kernel_rfl)|refine zB rfl rfl rfl (by repeat constructor) rfl ?_)
  refine oE (ev_alloc (cs := zLg) rfl) rfl ?_
  rintro _ _ _ _ ⟨rfl, b6, rfl, rfl⟩
  refine oN (ev_store (b := b6) (off := 0) rfl rfl .agg rfl lcx (lay_all (zs := zLg) lcx) ocx .here) rfl ?_
  rintro _ _ _ _ ⟨rfl, _, rfl⟩
  repeat (first|refine zJ rfl rfl ?_|refine jr rfl ?_|refine jn ?_|refine zM rfl rfl ?_|(refine zC rfl rfl ?_ rfl ?_;omega)|(refine zD rfl rfl ?_ rfl ?_;omega)|(refine zP rfl ?_ rfl ?_;omega)|refine zG rfl rfl rfl rfl ?_|(refine jdq rfl rfl ?_ ?_ ?_;kernel_rfl;kernel_rfl)|refine zB rfl rfl rfl (by repeat constructor) rfl ?_)
  -- the other's bytes
  have sb := lbytes_spec m cm F3 hv' k2' n1' n2' n3'
  refine ja F3 [blk b6 27 cx, blk b3 27 cm, blk b2 27 cs] ?_ (fun w s => Sat.left (A := [_, _, _]) s) ?_; kernel_rfl
  refine aT 0 rfl (ev_load_agg (cs := cm) rfl rfl (Rdb.ofB (n := 0) (.there .here) (by rw [List.drop_zero, List.take_length])) lc') rfl rfl ?_ ?_ ?_ ?_; kernel_rfl; kernel_rfl; kernel_rfl
  refine aT 3 rfl (ev_qe rfl) rfl rfl ?_ ?_ ?_ ?_; kernel_rfl; kernel_rfl; kernel_rfl
  refine aT 4 rfl (eb_string rfl (hux.rds)) rfl rfl ?_ ?_ ?_ ?_; kernel_rfl; kernel_rfl; kernel_rfl
  refine aB (i := 1) (by kernel_rfl) (aC (Hc := []) (Hr := blk b6 27 cx :: blk b3 27 cm :: blk b2 27 cs :: X) rfl sb Try.call11 rfl rfl rfl (fun _ s => s) (fun _ _ _ hF hq w s => by obtain ⟨rfl, _⟩ := hq; exact (Sat.left (A := [_, _, _]) s).mono hF) ?_)
  rintro u4 F4 _ hF4 ⟨rfl, h4⟩
  refine aS F4 [blk b6 27 cx, blk b3 27 cm, blk b2 27 cs] (fun _ s => s.mono hF4) (fun w s => Sat.left (A := [_, _, _]) s) ?_
  refine aT 2 rfl (eb_string rfl (h4.rds)) rfl rfl ?_ ?_ ?_ ?_; kernel_rfl; kernel_rfl; kernel_rfl
  refine aT 5 rfl (ev_seql (r := sameL l m) rfl rfl hsm) rfl rfl ?_ ?_ ?_ ?_; kernel_rfl; kernel_rfl; kernel_rfl
  refine aT 6 rfl (ev_qe rfl) rfl rfl ?_ ?_ ?_ ?_; kernel_rfl; kernel_rfl; kernel_rfl
  refine aD (by kernel_rfl) ?_
  have hv4 := hv.mono hF4
  have hvm4 := hv'.mono hF4
  have hvx4 := hvx.mono hF4
  have hu4 := hux.mono' hF4
  have hle4 := hle3.trans hF4
  clear hv hv' hvx hux hle3 sb h4
  repeat (first|refine zJ rfl rfl ?_|refine jr rfl ?_|refine jn ?_|refine zM rfl rfl ?_|(refine zC rfl rfl ?_ rfl ?_;omega)|(refine zD rfl rfl ?_ rfl ?_;omega)|(refine zP rfl ?_ rfl ?_;omega)|refine zG rfl rfl rfl rfl ?_|(refine jdq rfl rfl ?_ ?_ ?_;kernel_rfl;kernel_rfl)|refine zB rfl rfl rfl (by repeat constructor) rfl ?_)
  -- the last question
  have sb := Lbytes_spec l cs F4 hv4 n1 n2 n3
  refine ja F4 [blk b6 27 cx, blk b3 27 cm, blk b2 27 cs] ?_ (fun w s => Sat.left (A := [_, _, _]) s) ?_; kernel_rfl
  refine aT 0 rfl (ev_qe rfl) rfl rfl ?_ ?_ ?_ ?_; kernel_rfl; kernel_rfl; kernel_rfl
  refine aT 1 rfl (eb_string rfl (hu4.rds)) rfl rfl ?_ ?_ ?_ ?_; kernel_rfl; kernel_rfl; kernel_rfl
  refine aT 2 rfl (ev_load_agg (cs := cs) rfl rfl (Rdb.ofB (n := 0) (.there (.there .here)) (by rw [List.drop_zero, List.take_length])) lc) rfl rfl ?_ ?_ ?_ ?_; kernel_rfl; kernel_rfl; kernel_rfl
  refine aB (i := 3) (by kernel_rfl) (aC (Hc := []) (Hr := blk b6 27 cx :: blk b3 27 cm :: blk b2 27 cs :: X) rfl sb Try.call26 rfl rfl rfl (fun _ s => s) (fun _ _ _ hF hq w s => by obtain ⟨rfl, _⟩ := hq; exact (Sat.left (A := [_, _, _]) s).mono hF) ?_)
  rintro u5 F5 _ hF5 ⟨rfl, h5⟩
  refine aS F5 [blk b6 27 cx, blk b3 27 cm, blk b2 27 cs] (fun _ s => s.mono hF5) (fun w s => Sat.left (A := [_, _, _]) s) ?_
  refine aT 4 rfl (eb_string rfl (h5.rds)) rfl rfl ?_ ?_ ?_ ?_; kernel_rfl; kernel_rfl; kernel_rfl
  refine aT 5 rfl (ev_seql (r := true) rfl rfl (decide_eq_true rfl)) rfl rfl ?_ ?_ ?_ ?_; kernel_rfl; kernel_rfl; kernel_rfl
  refine aT 6 rfl (ev_qe rfl) rfl rfl ?_ ?_ ?_ ?_; kernel_rfl; kernel_rfl; kernel_rfl
  refine aT 7 rfl (ev_qe rfl) rfl rfl ?_ ?_ ?_ ?_; kernel_rfl; kernel_rfl; kernel_rfl
  refine aT 8 rfl (eg (b := true) rfl rfl rfl) rfl rfl ?_ ?_ ?_ ?_; kernel_rfl; kernel_rfl; kernel_rfl
  refine aT 9 rfl (ev_qe rfl) rfl rfl ?_ ?_ ?_ ?_; kernel_rfl; kernel_rfl; kernel_rfl
  refine aT 10 rfl (ev_qe rfl) rfl rfl ?_ ?_ ?_ ?_; kernel_rfl; kernel_rfl; kernel_rfl
  refine aT 11 rfl (ev_load_agg (cs := cx) rfl rfl (Rdb.ofB (n := 0) .here (by rw [List.drop_zero, List.take_length])) lcx) rfl rfl ?_ ?_ ?_ ?_; kernel_rfl; kernel_rfl; kernel_rfl
  refine aT 12 rfl (ev_load_agg (cs := cs) rfl rfl (Rdb.ofB (n := 0) (.there (.there .here)) (by rw [List.drop_zero, List.take_length])) lc) rfl rfl ?_ ?_ ?_ ?_; kernel_rfl; kernel_rfl; kernel_rfl
  have s3 := Lsame_spec l l cx cs F5 (hvx4.mono hF5) (hv4.mono hF5) kn km kn km
  rw [sameL_refl] at s3
  refine aB (i := 13) (by kernel_rfl) (aP rfl s3 Try.call10 rfl rfl rfl (fun _ s => Sat.left (A := [_, _, _]) s) ?_)
  refine aT 14 rfl (ev_qe rfl) rfl rfl ?_ ?_ ?_ ?_; kernel_rfl; kernel_rfl; kernel_rfl
  refine aT 15 rfl (ev_qe rfl) rfl rfl ?_ ?_ ?_ ?_; kernel_rfl; kernel_rfl; kernel_rfl
  refine aT 16 rfl (ev_qe rfl) rfl rfl ?_ ?_ ?_ ?_; kernel_rfl; kernel_rfl; kernel_rfl
  refine aT 17 rfl (ev_load_agg (cs := cs) rfl rfl (Rdb.ofB (n := 0) (.there (.there .here)) (by rw [List.drop_zero, List.take_length])) lc) rfl rfl ?_ ?_ ?_ ?_; kernel_rfl; kernel_rfl; kernel_rfl
  refine aT 18 rfl (ev_load_agg (cs := cm) rfl rfl (Rdb.ofB (n := 0) (.there .here) (by rw [List.drop_zero, List.take_length])) lc') rfl rfl ?_ ?_ ?_ ?_; kernel_rfl; kernel_rfl; kernel_rfl
  have s4 := Lsame_spec l m cs cm F5 (hv4.mono hF5) (hvm4.mono hF5) kn km kn' km'
  refine aB (i := 19) (by kernel_rfl) (aP rfl s4 Try.call10 rfl rfl rfl (fun _ s => Sat.left (A := [_, _, _]) s) ?_)
  refine aT 20 rfl (ev_beqlR (r := true) rfl rfl Try.underlying4 (by cases sameL l m <;> rfl)) rfl rfl ?_ ?_ ?_ ?_; kernel_rfl; kernel_rfl; kernel_rfl
  refine aT 21 rfl (ev_qe rfl) rfl rfl ?_ ?_ ?_ ?_; kernel_rfl; kernel_rfl; kernel_rfl
  refine aT 22 rfl (ev_qe rfl) rfl rfl ?_ ?_ ?_ ?_; kernel_rfl; kernel_rfl; kernel_rfl
  refine aD (by kernel_rfl) ?_
  repeat (first|refine zJ rfl rfl ?_|refine jr rfl ?_|refine jn ?_|refine zM rfl rfl ?_|(refine zC rfl rfl ?_ rfl ?_;omega)|(refine zD rfl rfl ?_ rfl ?_;omega)|(refine zP rfl ?_ rfl ?_;omega)|refine zG rfl rfl rfl rfl ?_|(refine jdq rfl rfl ?_ ?_ ?_;kernel_rfl;kernel_rfl)|refine zB rfl rfl rfl (by repeat constructor) rfl ?_)
  exact J_retv rfl (.tmp rfl .nil) [] (fun w s => s.drop.drop.drop) (hle4.trans hF5) ⟨rfl, rfl⟩
open Go.ChangeShapes Go.WideShapes Go.ChangeAt
set_option maxRecDepth 100000 in theorem LedgerBytes_lifted (os : Os) (started : os.Started) (H : Type) (enc : TypeId × Value → H) : ReturnsInHanded {} Try.checked os 5 .any (Rows.ledgerBytesSpec.pre6 enc Try.prog Try.f5 Rows.ledgerBytesRow.domain false) (Rows.ledgerBytesSpec.post enc Try.prog Try.f5 false true false false) := by
  refine returnsInHanded_of_change (C := Try.checked) own_knob started (by kernel_rfl) Try.func5 (ChangeSpec.witness6 (enc := enc) (C := Try.checked) false ⟨#[], #[.agg zLg.toArray, .agg zLg.toArray], []⟩ 8 (by kernel_rfl) (by kernel_rfl) (by kernel_rfl) (by kernel_rfl)) ?_; intro W base args ds gs before hval0 hW hcnd _; have hval : ∀ (j : Nat) t v, Try.f5.params[j]? = some t → args[j]? = some v → Value.okWide Try.prog W .any base t v := hval0; have hW' := hW; obtain ⟨p, q, hA0, hV, hp, hfz, hnd⟩ := hW; have hA : DataW.TrodAll enc Try.prog W 0 (fun _ => true) true Try.f5.params.toList args.toList ds p := hA0; obtain ⟨rfl, rfl⟩ := trodVars_none hV; rw [List.append_nil] at hp; have hA' := hA; rw [Try.params5] at hA hval
  obtain ⟨v0, vs0, d0, ds0, p0, q0, hargs, rfl, rfl, h0, r0⟩ := trodAll_cons hA; obtain ⟨v1, vs1, d1, ds1, p1, q1, rfl, rfl, rfl, h1, r1⟩ := trodAll_cons r0; obtain ⟨rfl, rfl, rfl⟩ := trodAll_nil r1; obtain rfl : args = #[v0, v1] := by cases args; simp_all
  obtain ⟨l, cs, rfl, hl⟩ := open_struct lyLg Try.underlying27 (hval 0 27 v0 rfl rfl) h0
  obtain ⟨m, cm, rfl, hm⟩ := open_struct lyLg Try.underlying27 (hval 1 27 v1 rfl rfl) h1
  refine (law_walk (LedgerBytes_walk l m cs cm (ph W) (lg_of hl) (lg_of hm))).mono fun e W' ⟨he, hb'⟩ => ?_
  subst he
  exact ⟨_, rfl, law_post laid_out (by kernel_rfl) rfl rfl Try.underlying4 hW' hA' hp rfl hb'⟩
theorem LedgerBytes_holds : Rows.LedgerBytesSaid := OpenClaim.holds_of_wide 5 Try.f5 rfl rfl rfl rfl rfl rfl rfl ⟨rfl, rfl, rfl, rfl, rfl⟩ rfl rfl rfl rfl rfl (by kernel_rfl) Try.func5 (by kernel_rfl) (of_decide_eq_true (by kernel_rfl)) (by unfold Func.isWrapper; first | (rw [if_pos (by decide +kernel)]; kernel_rfl) | (rw [if_neg (by decide +kernel)]; exact ⟨rfl, rfl⟩)) (fun os started H enc _ => LedgerBytes_lifted os started H enc)
#print axioms LedgerBytes_holds
end Go.Proofs.Ytifdlhafcfbeaaa
