/-
  What stands in any ledger, and with a letter or an outcome more, is what the document says; and the ledger stays (LedgerTells). No condition.
-/
import Derived.Test.YtifdlhafcfbeaaaDm
namespace Go.Proofs.Ytifdlhafcfbeaaa
open Go.RowKit
set_option maxRecDepth 100000
theorem LgV.len {F : PH} {cs : List Value} {l : LgX} (h : LgV F cs l) : cs.length = 4 ∧ Ones cs := by
  obtain ⟨vl, vo, rfl, hL, hO⟩ := h
  obtain ⟨al, cl, rfl, _⟩ := hL.form
  obtain ⟨ao, co, rfl, _⟩ := hO.form
  exact ⟨rfl, lgC_ones⟩
theorem rdb_all {F : PH} {H Hr : List Asrt} {b : Nat} {E : TypeId} {cs : List Value} (p : Pick (blk b E cs) H Hr) : Rdb F H b 0 cs := Rdb.ofB (n := 0) p (by rw [List.drop_zero, List.take_length])
theorem fill_lg : ∃ pl, placesOf Try.prog 27 = some pl ∧ ∀ (s t : Int) (a : Option Addr) (n c : Nat) (a' : Option Addr) (n' c' : Nat), FillF pl [(0, .int .i64 s), (1, .int .i64 t), (2, .slice a n c), (3, .slice a' n' c')] zLg (lgC s t (.slice a n c) (.slice a' n' c')) := ⟨_, rfl, fun s t a n c a' n' c' => by
  repeat (first | exact FillF.nil | refine FillF.cons (by constructor) rfl rfl (by repeat constructor) ?_)⟩
theorem ev_lt_same {l : Env} {F : PH} {H : List Asrt} {d : Option Nat} {T' U : TypeId} {pos : String} {af : Array Edge} {g : Option (Nat × Bool)} {x y : Operand} {e : LtX} (hx : opv l x = some (.agg (ltC e).toArray)) (hy : opv l y = some (.agg (ltC e).toArray)) : Ev Try.prog ⟨d, .binOp .eql 37 x y T', U, pos, af, g⟩ l F H (.bool true) := by
  have h := ev_lt_eql (F := F) (H := H) (d := d) (T' := T') (U := U) (pos := pos) (af := af) (g := g) hx hy
  rwa [decide_eq_true rfl] at h
theorem ev_ou_same {l : Env} {F : PH} {H : List Asrt} {d : Option Nat} {T' U : TypeId} {pos : String} {af : Array Edge} {g : Option (Nat × Bool)} {x y : Operand} {e : OuX} (hx : opv l x = some (.agg (ouC e).toArray)) (hy : opv l y = some (.agg (ouC e).toArray)) : Ev Try.prog ⟨d, .binOp .eql 39 x y T', U, pos, af, g⟩ l F H (.bool true) := by
  have h := ev_ou_eql (F := F) (H := H) (d := d) (T' := T') (U := U) (pos := pos) (af := af) (g := g) hx hy
  rwa [decide_eq_true rfl] at h
theorem withP_len (l : LgX) (x : LtX) : (withP l x).1.2.2.1.length ≤ l.2.2.1.length + 1 ∧ (withP l x).1.2.2.2.1.length ≤ l.2.2.2.1.length := by
  have := putP_len (ltEq x.1) (ltGt x.1) x l.2.2.1
  unfold withP
  split
  · exact ⟨Nat.zero_le _, Nat.zero_le _⟩
  · split
    · exact ⟨Nat.zero_le _, Nat.zero_le _⟩
    · exact ⟨this, Nat.le_refl _⟩
set_option maxHeartbeats 64000000 in
theorem LedgerTells_walk (l : LgX) (cs : List Value) (x : LtX) (o : OuX) (name : List UInt8) (client : Int) (F : PH) (hl : LgIn F cs l) (hx : x.1.length ≤ maxLen) (hnm : name.length ≤ maxLen) : Spec Try.prog 4 [.agg cs.toArray, .agg (ltC x).toArray, .agg (ouC o).toArray, .string (strOf name), .int .i64 client] F [] fun u F' H' => u = .bool true ∧ H' = [] := by
  obtain ⟨hv, k1, k2, kn, km, ks⟩ := hl
  obtain ⟨s, tt, L, O, _⟩ := l
  obtain ⟨vl, vo, rfl, hL, hO⟩ := id hv
  obtain ⟨al, cl, rfl, _⟩ := hL.form
  obtain ⟨ao, co, rfl, _⟩ := hO.form
  dsimp only at k1 k2 kn km ks hL hO hv ⊢
  have hz1 := strOf_size x.1
  have hz2 := strOf_size name
  unfold lgC at hv ⊢
  have hxm := hx
  have hnmm := hnm
  unfold maxLen at hxm hnmm
  refine Spec.of5 Try.func4 rfl rfl fun X w0 => ?_
  refine jc rfl rfl ?_
  refine jr rfl ?_
  refine oE (ev_box rfl .agg) rfl ?_; rintro _ _ _ _ ⟨rfl, b5, rfl, rfl⟩
  refine oE (ev_box rfl .agg) rfl ?_; rintro _ _ _ _ ⟨rfl, b6, rfl, rfl⟩
  refine oE (ev_box rfl .agg) rfl ?_; rintro _ _ _ _ ⟨rfl, b7, rfl, rfl⟩
  repeat (first|refine zJ rfl rfl ?_|refine jr rfl ?_|refine jn ?_|refine zM rfl rfl ?_|(refine zC rfl rfl ?_ rfl ?_;omega)|(refine zD rfl rfl ?_ rfl ?_;omega)|(refine zP rfl ?_ rfl ?_;omega)|refine zG rfl rfl rfl rfl ?_|(refine jdq rfl rfl ?_ ?_ ?_;kernel_rfl;kernel_rfl)|refine zB rfl rfl rfl (by repeat constructor) rfl ?_)
  refine oC (Hc := []) (Hr := blk b7 39 (ouC o) :: blk b6 37 (ltC x) :: blk b5 27 [.int .i64 s, .int .i64 tt, .slice al L.length cl, .slice ao O.length co] :: X) (fixed11_spec F) Try.call7 rfl rfl (fun _ s => s) ?_
  rintro _ F1 _ hF1 ⟨rfl, rfl⟩
  repeat (first|refine zJ rfl rfl ?_|refine jr rfl ?_|refine jn ?_|refine zM rfl rfl ?_|(refine zC rfl rfl ?_ rfl ?_;omega)|(refine zD rfl rfl ?_ rfl ?_;omega)|(refine zP rfl ?_ rfl ?_;omega)|refine zG rfl rfl rfl rfl ?_|(refine jdq rfl rfl ?_ ?_ ?_;kernel_rfl;kernel_rfl)|refine zB rfl rfl rfl (by repeat constructor) rfl ?_)
  replace hv := hv.mono hF1
  replace hL := hL.mono hF1
  replace hO := hO.mono hF1
  have sf := few_spec (s, tt, L, O, ()) [.int .i64 s, .int .i64 tt, .slice al L.length cl, .slice ao O.length co] F1 hv kn km ks
  refine oS (ev_load_agg (cs := [.int .i64 s, .int .i64 tt, .slice al L.length cl, .slice ao O.length co]) rfl rfl (rdb_all (.there (.there .here))) rfl) rfl ?_
  cases hf : fewB (s, tt, L, O, ()) with
  | false =>
    rw [hf] at sf
    refine oP (sf) Try.call12 rfl rfl ?_
    repeat (first|refine zJ rfl rfl ?_|refine jr rfl ?_|refine jn ?_|refine zM rfl rfl ?_|(refine zC rfl rfl ?_ rfl ?_;omega)|(refine zD rfl rfl ?_ rfl ?_;omega)|(refine zP rfl ?_ rfl ?_;omega)|refine zG rfl rfl rfl rfl ?_|(refine jdq rfl rfl ?_ ?_ ?_;kernel_rfl;kernel_rfl)|refine zB rfl rfl rfl (by repeat constructor) rfl ?_)
    exact J_retv rfl (.tmp rfl .nil) [] (fun w s => s.drop.drop.drop) hF1 ⟨rfl, rfl⟩
  | true =>
  rw [hf] at sf
  refine oP (sf) Try.call12 rfl rfl ?_
  repeat (first|refine zJ rfl rfl ?_|refine jr rfl ?_|refine jn ?_|refine zM rfl rfl ?_|(refine zC rfl rfl ?_ rfl ?_;omega)|(refine zD rfl rfl ?_ rfl ?_;omega)|(refine zP rfl ?_ rfl ?_;omega)|refine zG rfl rfl rfl rfl ?_|(refine jdq rfl rfl ?_ ?_ ?_;kernel_rfl;kernel_rfl)|refine zB rfl rfl rfl (by repeat constructor) rfl ?_)
  refine oS (ev_load (v := .string (strOf x.1)) rfl rfl (Rdb.ofB (n := 0) (.there .here) rfl)) rfl ?_
  by_cases c1 : 100 < x.1.length
  · repeat (first|refine zJ rfl rfl ?_|refine jr rfl ?_|refine jn ?_|refine zM rfl rfl ?_|(refine zC rfl rfl ?_ rfl ?_;omega)|(refine zD rfl rfl ?_ rfl ?_;omega)|(refine zP rfl ?_ rfl ?_;omega)|refine zG rfl rfl rfl rfl ?_|(refine jdq rfl rfl ?_ ?_ ?_;kernel_rfl;kernel_rfl)|refine zB rfl rfl rfl (by repeat constructor) rfl ?_)
    exact J_retv rfl (.tmp rfl .nil) [] (fun w s => s.drop.drop.drop) hF1 ⟨rfl, rfl⟩
  by_cases c2 : 100 < name.length
  · repeat (first|refine zJ rfl rfl ?_|refine jr rfl ?_|refine jn ?_|refine zM rfl rfl ?_|(refine zC rfl rfl ?_ rfl ?_;omega)|(refine zD rfl rfl ?_ rfl ?_;omega)|(refine zP rfl ?_ rfl ?_;omega)|refine zG rfl rfl rfl rfl ?_|(refine jdq rfl rfl ?_ ?_ ?_;kernel_rfl;kernel_rfl)|refine zB rfl rfl rfl (by repeat constructor) rfl ?_)
    exact J_retv rfl (.tmp rfl .nil) [] (fun w s => s.drop.drop.drop) hF1 ⟨rfl, rfl⟩
  repeat (first|refine zJ rfl rfl ?_|refine jr rfl ?_|refine jn ?_|refine zM rfl rfl ?_|(refine zC rfl rfl ?_ rfl ?_;omega)|(refine zD rfl rfl ?_ rfl ?_;omega)|(refine zP rfl ?_ rfl ?_;omega)|refine zG rfl rfl rfl rfl ?_|(refine jdq rfl rfl ?_ ?_ ?_;kernel_rfl;kernel_rfl)|refine zB rfl rfl rfl (by repeat constructor) rfl ?_)
  obtain ⟨n1, n2, n3⟩ := fewB_ok hf
  dsimp only at n1 n2 n3
  clear sf hf
  refine J_join [_] (fun q : PH × Value × Value × Nat => F1.le q.1 ∧ ltRow q.1 q.2.1 L ∧ ouRow q.1 q.2.2.1 O) (fun q => [(3, .string (strOf name)), (4, .int .i64 client), (5, .pointer (some ⟨b5, 0, none⟩)), (6, .pointer (some ⟨b6, 0, none⟩)), (7, .pointer (some ⟨b7, 0, none⟩)), (11, .pointer (some ⟨q.2.2.2, 0, none⟩))]) (fun q => q.1) (fun q => blk q.2.2.2 27 (lgC s tt q.2.1 q.2.2.1) :: blk b7 39 (ouC o) :: blk b6 37 (ltC x) :: blk b5 27 [.int .i64 s, .int .i64 tt, .slice al L.length cl, .slice ao O.length co] :: X) ?_ ?_
  · obtain ⟨pl, hpl, hfl⟩ := fill_lg
    refine ja F1 [blk b5 27 [.int .i64 s, .int .i64 tt, .slice al L.length cl, .slice ao O.length co]] ?_ (fun w s => (s.pick (.there (.there .here))).head) ?_; kernel_rfl
    refine aT 0 rfl (ev_qe rfl) rfl rfl ?_ ?_ ?_ ?_; kernel_rfl; kernel_rfl; kernel_rfl
    refine aT 1 rfl (ev_load (v := .int .i64 s) rfl rfl (Rdb.ofB (n := 0) .here rfl)) rfl rfl ?_ ?_ ?_ ?_; kernel_rfl; kernel_rfl; kernel_rfl
    refine aT 2 rfl (ev_qe rfl) rfl rfl ?_ ?_ ?_ ?_; kernel_rfl; kernel_rfl; kernel_rfl
    refine aT 3 rfl (ev_load (v := .int .i64 tt) rfl rfl (Rdb.ofB (n := 0) .here rfl)) rfl rfl ?_ ?_ ?_ ?_; kernel_rfl; kernel_rfl; kernel_rfl
    refine aT 5 rfl (ev_qe rfl) rfl rfl ?_ ?_ ?_ ?_; kernel_rfl; kernel_rfl; kernel_rfl
    refine aT 6 rfl (ev_load (v := .slice al L.length cl) rfl rfl (Rdb.ofB (n := 0) .here rfl)) rfl rfl ?_ ?_ ?_ ?_; kernel_rfl; kernel_rfl; kernel_rfl
    refine aT 9 rfl (ev_qe rfl) rfl rfl ?_ ?_ ?_ ?_; kernel_rfl; kernel_rfl; kernel_rfl
    refine aT 10 rfl (ev_load (v := .slice ao O.length co) rfl rfl (Rdb.ofB (n := 0) .here rfl)) rfl rfl ?_ ?_ ?_ ?_; kernel_rfl; kernel_rfl; kernel_rfl
    refine aB3 (i := 4) (i' := 8) (i'' := 13) (by kernel_rfl) ?_ ?_ ?_
    · refine aE rfl (ev_mt lt_el) rfl rfl ?_ ?_
      · rintro _ _ _ _ ⟨rfl, ⟨bm4, rfl⟩, rfl⟩ w s
        exact (s.pick (.there (.there (.there .here)))).head.mono (PH.ler _)
      rintro _ _ _ _ ⟨rfl, ⟨bm4, rfl⟩, rfl⟩
      refine aB3 (i := 7) (i' := 8) (i'' := 13) (by kernel_rfl) ?_ ?_ ?_
      · refine aE rfl (ev_append_s (n := 0) (m := L.length) (xs := []) (news := rowC ltC L) (K := fun v' => own v' 37 6 L.length (rowC ltC L) :: blk b7 39 (ouC o) :: blk b6 37 (ltC x) :: blk b5 27 [.int .i64 s, .int .i64 tt, .slice al L.length cl, .slice ao O.length co] :: X) rfl rfl lt_el (hL.mono (PH.ler _)).rds (lt_rones L) (by omega) (fun v' => by rw [Nat.zero_add, List.nil_append]; exact .here)) rfl rfl ?_ ?_
        · rintro _ _ _ _ ⟨rfl, _, rfl⟩ w s
          exact (s.pick (.there (.there (.there .here)))).head.mono (PH.ler _)
        rintro u7 _ _ _ ⟨rfl, _, rfl⟩
        refine aPersist fun hh hA hd => ?_
        have row7 : ltRow (F1.un hh) u7 L := ltRow.of hA hd
        have le7 := PH.le_l F1 hh
        generalize F1.un hh = G7 at *
        clear hA hd
        obtain ⟨a7, c7, rfl, _⟩ := row7.form
        refine aB2 (i := 8) (i' := 13) (by kernel_rfl) ?_ ?_
        · refine aE rfl (ev_mt ou_el) rfl rfl ?_ ?_
          · rintro _ _ _ _ ⟨rfl, ⟨bm8, rfl⟩, rfl⟩ w s
            exact (s.pick (.there (.there (.there .here)))).head.mono (le7)
          rintro _ _ _ _ ⟨rfl, ⟨bm8, rfl⟩, rfl⟩
          refine aB2 (i := 11) (i' := 13) (by kernel_rfl) ?_ ?_
          · refine aE rfl (ev_append_s (n := 0) (m := O.length) (xs := []) (news := rowC ouC O) (K := fun v' => own v' 39 3 O.length (rowC ouC O) :: blk b7 39 (ouC o) :: blk b6 37 (ltC x) :: blk b5 27 [.int .i64 s, .int .i64 tt, .slice al L.length cl, .slice ao O.length co] :: X) rfl rfl ou_el (hO.mono (le7)).rds (ou_rones O) (by omega) (fun v' => by rw [Nat.zero_add, List.nil_append]; exact .here)) rfl rfl ?_ ?_
            · rintro _ _ _ _ ⟨rfl, _, rfl⟩ w s
              exact (s.pick (.there (.there (.there .here)))).head.mono (le7)
            rintro u11 _ _ _ ⟨rfl, _, rfl⟩
            refine aPersist fun hh hA hd => ?_
            have row11 : ouRow (G7.un hh) u11 O := ouRow.of hA hd
            have le11 := PH.le_l G7 hh
            generalize G7.un hh = G11 at *
            clear hA hd
            obtain ⟨a11, c11, rfl, _⟩ := row11.form
            refine aT 12 rfl (ev_build (t := lgC s tt (.slice a7 L.length c7) (.slice a11 O.length c11)) rfl rfl hpl (hfl s tt a7 L.length c7 a11 O.length c11)) rfl rfl ?_ ?_ ?_ ?_; kernel_rfl; kernel_rfl; kernel_rfl
            refine aB (i := 13) (by kernel_rfl) ?_
            refine aE rfl (ev_alloc (cs := zLg) rfl) rfl rfl ?_ ?_
            · rintro _ _ _ _ ⟨rfl, b11, rfl, rfl⟩ w s
              exact (s.pick (.there (.there (.there .here)))).head.mono (le7.trans le11)
            rintro _ _ _ _ ⟨rfl, b11, rfl, rfl⟩
            refine aB (i := 14) (by kernel_rfl) (aN rfl (ev_store (b := b11) (off := 0) rfl rfl .agg rfl rfl (lay_all (zs := zLg) rfl) lgC_ones (.here)) rfl (fun _ _ _ _ hq w s => by obtain ⟨rfl, _, rfl⟩ := hq; exact (s.pick (.there (.there (.there .here)))).head.mono (le7.trans le11)) ?_)
            rintro _ _ _ _ ⟨rfl, _, rfl⟩
            refine aD (by kernel_rfl) ?_
            exact J_joined (G11, .slice a7 L.length c7, .slice a11 O.length c11, b11) ⟨(le7.trans le11), row7.mono le11, row11⟩ ⟨⟨rfl, rfl, rfl, rfl, rfl, rfl, trivial⟩, fun w s => s.pm 4 [0, 1, 2, 3] rfl rfl⟩
          · refine aE rfl (ev_alloc (cs := zLg) rfl) rfl rfl ?_ ?_
            · rintro _ _ _ _ ⟨rfl, b11, rfl, rfl⟩ w s
              exact (s.pick (.there (.there (.there (.there .here))))).head.mono (le7)
            rintro _ _ _ _ ⟨rfl, b11, rfl, rfl⟩
            refine aB (i := 11) (by kernel_rfl) ?_
            refine aE rfl (ev_append_s (n := 0) (m := O.length) (xs := []) (news := rowC ouC O) (K := fun v' => blk b11 27 zLg :: own v' 39 3 O.length (rowC ouC O) :: blk b7 39 (ouC o) :: blk b6 37 (ltC x) :: blk b5 27 [.int .i64 s, .int .i64 tt, .slice al L.length cl, .slice ao O.length co] :: X) rfl rfl ou_el (hO.mono (le7)).rds (ou_rones O) (by omega) (fun v' => by rw [Nat.zero_add, List.nil_append]; exact .there .here)) rfl rfl ?_ ?_
            · rintro _ _ _ _ ⟨rfl, _, rfl⟩ w s
              exact (s.pick (.there (.there (.there (.there .here))))).head.mono (le7)
            rintro u11 _ _ _ ⟨rfl, _, rfl⟩
            refine aWeak (F' := G7) (H' := own u11 39 3 O.length (rowC ouC O) :: blk b11 27 zLg :: blk b7 39 (ouC o) :: blk b6 37 (ltC x) :: blk b5 27 [.int .i64 s, .int .i64 tt, .slice al L.length cl, .slice ao O.length co] :: X) ?_ (fun w s => (s.pick (.there (.there (.there (.there .here))))).head.mono (le7)) (fun w s => s.pm 5 [1, 0, 2, 3, 4] rfl rfl)
            refine aPersist fun hh hA hd => ?_
            have row11 : ouRow (G7.un hh) u11 O := ouRow.of hA hd
            have le11 := PH.le_l G7 hh
            generalize G7.un hh = G11 at *
            clear hA hd
            obtain ⟨a11, c11, rfl, _⟩ := row11.form
            refine aT 12 rfl (ev_build (t := lgC s tt (.slice a7 L.length c7) (.slice a11 O.length c11)) rfl rfl hpl (hfl s tt a7 L.length c7 a11 O.length c11)) rfl rfl ?_ ?_ ?_ ?_; kernel_rfl; kernel_rfl; kernel_rfl
            refine aB (i := 14) (by kernel_rfl) (aN rfl (ev_store (b := b11) (off := 0) rfl rfl .agg rfl rfl (lay_all (zs := zLg) rfl) lgC_ones (.here)) rfl (fun _ _ _ _ hq w s => by obtain ⟨rfl, _, rfl⟩ := hq; exact (s.pick (.there (.there (.there .here)))).head.mono (le7.trans le11)) ?_)
            rintro _ _ _ _ ⟨rfl, _, rfl⟩
            refine aD (by kernel_rfl) ?_
            exact J_joined (G11, .slice a7 L.length c7, .slice a11 O.length c11, b11) ⟨(le7.trans le11), row7.mono le11, row11⟩ ⟨⟨rfl, rfl, rfl, rfl, rfl, rfl, trivial⟩, fun w s => s.pm 4 [0, 1, 2, 3] rfl rfl⟩
        · refine aE rfl (ev_alloc (cs := zLg) rfl) rfl rfl ?_ ?_
          · rintro _ _ _ _ ⟨rfl, b11, rfl, rfl⟩ w s
            exact (s.pick (.there (.there (.there .here)))).head.mono (le7)
          rintro _ _ _ _ ⟨rfl, b11, rfl, rfl⟩
          refine aB (i := 8) (by kernel_rfl) ?_
          refine aE rfl (ev_mt ou_el) rfl rfl ?_ ?_
          · rintro _ _ _ _ ⟨rfl, ⟨bm8, rfl⟩, rfl⟩ w s
            exact (s.pick (.there (.there (.there (.there .here))))).head.mono (le7)
          rintro _ _ _ _ ⟨rfl, ⟨bm8, rfl⟩, rfl⟩
          refine aB (i := 11) (by kernel_rfl) ?_
          refine aE rfl (ev_append_s (n := 0) (m := O.length) (xs := []) (news := rowC ouC O) (K := fun v' => own v' 39 3 O.length (rowC ouC O) :: blk b11 27 zLg :: blk b7 39 (ouC o) :: blk b6 37 (ltC x) :: blk b5 27 [.int .i64 s, .int .i64 tt, .slice al L.length cl, .slice ao O.length co] :: X) rfl rfl ou_el (hO.mono (le7)).rds (ou_rones O) (by omega) (fun v' => by rw [Nat.zero_add, List.nil_append]; exact .here)) rfl rfl ?_ ?_
          · rintro _ _ _ _ ⟨rfl, _, rfl⟩ w s
            exact (s.pick (.there (.there (.there (.there .here))))).head.mono (le7)
          rintro u11 _ _ _ ⟨rfl, _, rfl⟩
          refine aPersist fun hh hA hd => ?_
          have row11 : ouRow (G7.un hh) u11 O := ouRow.of hA hd
          have le11 := PH.le_l G7 hh
          generalize G7.un hh = G11 at *
          clear hA hd
          obtain ⟨a11, c11, rfl, _⟩ := row11.form
          refine aT 12 rfl (ev_build (t := lgC s tt (.slice a7 L.length c7) (.slice a11 O.length c11)) rfl rfl hpl (hfl s tt a7 L.length c7 a11 O.length c11)) rfl rfl ?_ ?_ ?_ ?_; kernel_rfl; kernel_rfl; kernel_rfl
          refine aB (i := 14) (by kernel_rfl) (aN rfl (ev_store (b := b11) (off := 0) rfl rfl .agg rfl rfl (lay_all (zs := zLg) rfl) lgC_ones (.here)) rfl (fun _ _ _ _ hq w s => by obtain ⟨rfl, _, rfl⟩ := hq; exact (s.pick (.there (.there (.there .here)))).head.mono (le7.trans le11)) ?_)
          rintro _ _ _ _ ⟨rfl, _, rfl⟩
          refine aD (by kernel_rfl) ?_
          exact J_joined (G11, .slice a7 L.length c7, .slice a11 O.length c11, b11) ⟨(le7.trans le11), row7.mono le11, row11⟩ ⟨⟨rfl, rfl, rfl, rfl, rfl, rfl, trivial⟩, fun w s => s.pm 4 [0, 1, 2, 3] rfl rfl⟩
      · refine aE rfl (ev_mt ou_el) rfl rfl ?_ ?_
        · rintro _ _ _ _ ⟨rfl, ⟨bm8, rfl⟩, rfl⟩ w s
          exact (s.pick (.there (.there (.there (.there .here))))).head.mono (PH.ler _)
        rintro _ _ _ _ ⟨rfl, ⟨bm8, rfl⟩, rfl⟩
        refine aB2 (i := 7) (i' := 13) (by kernel_rfl) ?_ ?_
        · refine aE rfl (ev_append_s (n := 0) (m := L.length) (xs := []) (news := rowC ltC L) (K := fun v' => own (.slice (some ⟨bm8, 0, none⟩) 0 0) 39 3 0 [] :: own v' 37 6 L.length (rowC ltC L) :: blk b7 39 (ouC o) :: blk b6 37 (ltC x) :: blk b5 27 [.int .i64 s, .int .i64 tt, .slice al L.length cl, .slice ao O.length co] :: X) rfl rfl lt_el (hL.mono (PH.ler _)).rds (lt_rones L) (by omega) (fun v' => by rw [Nat.zero_add, List.nil_append]; exact .there .here)) rfl rfl ?_ ?_
          · rintro _ _ _ _ ⟨rfl, _, rfl⟩ w s
            exact (s.pick (.there (.there (.there (.there .here))))).head.mono (PH.ler _)
          rintro u7 _ _ _ ⟨rfl, _, rfl⟩
          refine aWeak (F' := F1) (H' := own u7 37 6 L.length (rowC ltC L) :: own (.slice (some ⟨bm8, 0, none⟩) 0 0) 39 3 0 [] :: blk b7 39 (ouC o) :: blk b6 37 (ltC x) :: blk b5 27 [.int .i64 s, .int .i64 tt, .slice al L.length cl, .slice ao O.length co] :: X) ?_ (fun w s => (s.pick (.there (.there (.there (.there .here))))).head.mono (PH.ler _)) (fun w s => s.pm 5 [1, 0, 2, 3, 4] rfl rfl)
          refine aPersist fun hh hA hd => ?_
          have row7 : ltRow (F1.un hh) u7 L := ltRow.of hA hd
          have le7 := PH.le_l F1 hh
          generalize F1.un hh = G7 at *
          clear hA hd
          obtain ⟨a7, c7, rfl, _⟩ := row7.form
          refine aB2 (i := 11) (i' := 13) (by kernel_rfl) ?_ ?_
          · refine aE rfl (ev_append_s (n := 0) (m := O.length) (xs := []) (news := rowC ouC O) (K := fun v' => own v' 39 3 O.length (rowC ouC O) :: blk b7 39 (ouC o) :: blk b6 37 (ltC x) :: blk b5 27 [.int .i64 s, .int .i64 tt, .slice al L.length cl, .slice ao O.length co] :: X) rfl rfl ou_el (hO.mono (le7)).rds (ou_rones O) (by omega) (fun v' => by rw [Nat.zero_add, List.nil_append]; exact .here)) rfl rfl ?_ ?_
            · rintro _ _ _ _ ⟨rfl, _, rfl⟩ w s
              exact (s.pick (.there (.there (.there .here)))).head.mono (le7)
            rintro u11 _ _ _ ⟨rfl, _, rfl⟩
            refine aPersist fun hh hA hd => ?_
            have row11 : ouRow (G7.un hh) u11 O := ouRow.of hA hd
            have le11 := PH.le_l G7 hh
            generalize G7.un hh = G11 at *
            clear hA hd
            obtain ⟨a11, c11, rfl, _⟩ := row11.form
            refine aT 12 rfl (ev_build (t := lgC s tt (.slice a7 L.length c7) (.slice a11 O.length c11)) rfl rfl hpl (hfl s tt a7 L.length c7 a11 O.length c11)) rfl rfl ?_ ?_ ?_ ?_; kernel_rfl; kernel_rfl; kernel_rfl
            refine aB (i := 13) (by kernel_rfl) ?_
            refine aE rfl (ev_alloc (cs := zLg) rfl) rfl rfl ?_ ?_
            · rintro _ _ _ _ ⟨rfl, b11, rfl, rfl⟩ w s
              exact (s.pick (.there (.there (.there .here)))).head.mono (le7.trans le11)
            rintro _ _ _ _ ⟨rfl, b11, rfl, rfl⟩
            refine aB (i := 14) (by kernel_rfl) (aN rfl (ev_store (b := b11) (off := 0) rfl rfl .agg rfl rfl (lay_all (zs := zLg) rfl) lgC_ones (.here)) rfl (fun _ _ _ _ hq w s => by obtain ⟨rfl, _, rfl⟩ := hq; exact (s.pick (.there (.there (.there .here)))).head.mono (le7.trans le11)) ?_)
            rintro _ _ _ _ ⟨rfl, _, rfl⟩
            refine aD (by kernel_rfl) ?_
            exact J_joined (G11, .slice a7 L.length c7, .slice a11 O.length c11, b11) ⟨(le7.trans le11), row7.mono le11, row11⟩ ⟨⟨rfl, rfl, rfl, rfl, rfl, rfl, trivial⟩, fun w s => s.pm 4 [0, 1, 2, 3] rfl rfl⟩
          · refine aE rfl (ev_alloc (cs := zLg) rfl) rfl rfl ?_ ?_
            · rintro _ _ _ _ ⟨rfl, b11, rfl, rfl⟩ w s
              exact (s.pick (.there (.there (.there (.there .here))))).head.mono (le7)
            rintro _ _ _ _ ⟨rfl, b11, rfl, rfl⟩
            refine aB (i := 11) (by kernel_rfl) ?_
            refine aE rfl (ev_append_s (n := 0) (m := O.length) (xs := []) (news := rowC ouC O) (K := fun v' => blk b11 27 zLg :: own v' 39 3 O.length (rowC ouC O) :: blk b7 39 (ouC o) :: blk b6 37 (ltC x) :: blk b5 27 [.int .i64 s, .int .i64 tt, .slice al L.length cl, .slice ao O.length co] :: X) rfl rfl ou_el (hO.mono (le7)).rds (ou_rones O) (by omega) (fun v' => by rw [Nat.zero_add, List.nil_append]; exact .there .here)) rfl rfl ?_ ?_
            · rintro _ _ _ _ ⟨rfl, _, rfl⟩ w s
              exact (s.pick (.there (.there (.there (.there .here))))).head.mono (le7)
            rintro u11 _ _ _ ⟨rfl, _, rfl⟩
            refine aWeak (F' := G7) (H' := own u11 39 3 O.length (rowC ouC O) :: blk b11 27 zLg :: blk b7 39 (ouC o) :: blk b6 37 (ltC x) :: blk b5 27 [.int .i64 s, .int .i64 tt, .slice al L.length cl, .slice ao O.length co] :: X) ?_ (fun w s => (s.pick (.there (.there (.there (.there .here))))).head.mono (le7)) (fun w s => s.pm 5 [1, 0, 2, 3, 4] rfl rfl)
            refine aPersist fun hh hA hd => ?_
            have row11 : ouRow (G7.un hh) u11 O := ouRow.of hA hd
            have le11 := PH.le_l G7 hh
            generalize G7.un hh = G11 at *
            clear hA hd
            obtain ⟨a11, c11, rfl, _⟩ := row11.form
            refine aT 12 rfl (ev_build (t := lgC s tt (.slice a7 L.length c7) (.slice a11 O.length c11)) rfl rfl hpl (hfl s tt a7 L.length c7 a11 O.length c11)) rfl rfl ?_ ?_ ?_ ?_; kernel_rfl; kernel_rfl; kernel_rfl
            refine aB (i := 14) (by kernel_rfl) (aN rfl (ev_store (b := b11) (off := 0) rfl rfl .agg rfl rfl (lay_all (zs := zLg) rfl) lgC_ones (.here)) rfl (fun _ _ _ _ hq w s => by obtain ⟨rfl, _, rfl⟩ := hq; exact (s.pick (.there (.there (.there .here)))).head.mono (le7.trans le11)) ?_)
            rintro _ _ _ _ ⟨rfl, _, rfl⟩
            refine aD (by kernel_rfl) ?_
            exact J_joined (G11, .slice a7 L.length c7, .slice a11 O.length c11, b11) ⟨(le7.trans le11), row7.mono le11, row11⟩ ⟨⟨rfl, rfl, rfl, rfl, rfl, rfl, trivial⟩, fun w s => s.pm 4 [0, 1, 2, 3] rfl rfl⟩
        · refine aE rfl (ev_alloc (cs := zLg) rfl) rfl rfl ?_ ?_
          · rintro _ _ _ _ ⟨rfl, b11, rfl, rfl⟩ w s
            exact (s.pick (.there (.there (.there (.there (.there .here)))))).head.mono (PH.ler _)
          rintro _ _ _ _ ⟨rfl, b11, rfl, rfl⟩
          refine aB (i := 7) (by kernel_rfl) ?_
          refine aE rfl (ev_append_s (n := 0) (m := L.length) (xs := []) (news := rowC ltC L) (K := fun v' => blk b11 27 zLg :: own (.slice (some ⟨bm8, 0, none⟩) 0 0) 39 3 0 [] :: own v' 37 6 L.length (rowC ltC L) :: blk b7 39 (ouC o) :: blk b6 37 (ltC x) :: blk b5 27 [.int .i64 s, .int .i64 tt, .slice al L.length cl, .slice ao O.length co] :: X) rfl rfl lt_el (hL.mono (PH.ler _)).rds (lt_rones L) (by omega) (fun v' => by rw [Nat.zero_add, List.nil_append]; exact .there (.there .here))) rfl rfl ?_ ?_
          · rintro _ _ _ _ ⟨rfl, _, rfl⟩ w s
            exact (s.pick (.there (.there (.there (.there (.there .here)))))).head.mono (PH.ler _)
          rintro u7 _ _ _ ⟨rfl, _, rfl⟩
          refine aWeak (F' := F1) (H' := own u7 37 6 L.length (rowC ltC L) :: blk b11 27 zLg :: own (.slice (some ⟨bm8, 0, none⟩) 0 0) 39 3 0 [] :: blk b7 39 (ouC o) :: blk b6 37 (ltC x) :: blk b5 27 [.int .i64 s, .int .i64 tt, .slice al L.length cl, .slice ao O.length co] :: X) ?_ (fun w s => (s.pick (.there (.there (.there (.there (.there .here)))))).head.mono (PH.ler _)) (fun w s => s.pm 6 [2, 0, 1, 3, 4, 5] rfl rfl)
          refine aPersist fun hh hA hd => ?_
          have row7 : ltRow (F1.un hh) u7 L := ltRow.of hA hd
          have le7 := PH.le_l F1 hh
          generalize F1.un hh = G7 at *
          clear hA hd
          obtain ⟨a7, c7, rfl, _⟩ := row7.form
          refine aB (i := 11) (by kernel_rfl) ?_
          refine aE rfl (ev_append_s (n := 0) (m := O.length) (xs := []) (news := rowC ouC O) (K := fun v' => blk b11 27 zLg :: own v' 39 3 O.length (rowC ouC O) :: blk b7 39 (ouC o) :: blk b6 37 (ltC x) :: blk b5 27 [.int .i64 s, .int .i64 tt, .slice al L.length cl, .slice ao O.length co] :: X) rfl rfl ou_el (hO.mono (le7)).rds (ou_rones O) (by omega) (fun v' => by rw [Nat.zero_add, List.nil_append]; exact .there .here)) rfl rfl ?_ ?_
          · rintro _ _ _ _ ⟨rfl, _, rfl⟩ w s
            exact (s.pick (.there (.there (.there (.there .here))))).head.mono (le7)
          rintro u11 _ _ _ ⟨rfl, _, rfl⟩
          refine aWeak (F' := G7) (H' := own u11 39 3 O.length (rowC ouC O) :: blk b11 27 zLg :: blk b7 39 (ouC o) :: blk b6 37 (ltC x) :: blk b5 27 [.int .i64 s, .int .i64 tt, .slice al L.length cl, .slice ao O.length co] :: X) ?_ (fun w s => (s.pick (.there (.there (.there (.there .here))))).head.mono (le7)) (fun w s => s.pm 5 [1, 0, 2, 3, 4] rfl rfl)
          refine aPersist fun hh hA hd => ?_
          have row11 : ouRow (G7.un hh) u11 O := ouRow.of hA hd
          have le11 := PH.le_l G7 hh
          generalize G7.un hh = G11 at *
          clear hA hd
          obtain ⟨a11, c11, rfl, _⟩ := row11.form
          refine aT 12 rfl (ev_build (t := lgC s tt (.slice a7 L.length c7) (.slice a11 O.length c11)) rfl rfl hpl (hfl s tt a7 L.length c7 a11 O.length c11)) rfl rfl ?_ ?_ ?_ ?_; kernel_rfl; kernel_rfl; kernel_rfl
          refine aB (i := 14) (by kernel_rfl) (aN rfl (ev_store (b := b11) (off := 0) rfl rfl .agg rfl rfl (lay_all (zs := zLg) rfl) lgC_ones (.here)) rfl (fun _ _ _ _ hq w s => by obtain ⟨rfl, _, rfl⟩ := hq; exact (s.pick (.there (.there (.there .here)))).head.mono (le7.trans le11)) ?_)
          rintro _ _ _ _ ⟨rfl, _, rfl⟩
          refine aD (by kernel_rfl) ?_
          exact J_joined (G11, .slice a7 L.length c7, .slice a11 O.length c11, b11) ⟨(le7.trans le11), row7.mono le11, row11⟩ ⟨⟨rfl, rfl, rfl, rfl, rfl, rfl, trivial⟩, fun w s => s.pm 4 [0, 1, 2, 3] rfl rfl⟩
      · refine aE rfl (ev_alloc (cs := zLg) rfl) rfl rfl ?_ ?_
        · rintro _ _ _ _ ⟨rfl, b11, rfl, rfl⟩ w s
          exact (s.pick (.there (.there (.there (.there .here))))).head.mono (PH.ler _)
        rintro _ _ _ _ ⟨rfl, b11, rfl, rfl⟩
        refine aB2 (i := 7) (i' := 8) (by kernel_rfl) ?_ ?_
        · refine aE rfl (ev_append_s (n := 0) (m := L.length) (xs := []) (news := rowC ltC L) (K := fun v' => blk b11 27 zLg :: own v' 37 6 L.length (rowC ltC L) :: blk b7 39 (ouC o) :: blk b6 37 (ltC x) :: blk b5 27 [.int .i64 s, .int .i64 tt, .slice al L.length cl, .slice ao O.length co] :: X) rfl rfl lt_el (hL.mono (PH.ler _)).rds (lt_rones L) (by omega) (fun v' => by rw [Nat.zero_add, List.nil_append]; exact .there .here)) rfl rfl ?_ ?_
          · rintro _ _ _ _ ⟨rfl, _, rfl⟩ w s
            exact (s.pick (.there (.there (.there (.there .here))))).head.mono (PH.ler _)
          rintro u7 _ _ _ ⟨rfl, _, rfl⟩
          refine aWeak (F' := F1) (H' := own u7 37 6 L.length (rowC ltC L) :: blk b11 27 zLg :: blk b7 39 (ouC o) :: blk b6 37 (ltC x) :: blk b5 27 [.int .i64 s, .int .i64 tt, .slice al L.length cl, .slice ao O.length co] :: X) ?_ (fun w s => (s.pick (.there (.there (.there (.there .here))))).head.mono (PH.ler _)) (fun w s => s.pm 5 [1, 0, 2, 3, 4] rfl rfl)
          refine aPersist fun hh hA hd => ?_
          have row7 : ltRow (F1.un hh) u7 L := ltRow.of hA hd
          have le7 := PH.le_l F1 hh
          generalize F1.un hh = G7 at *
          clear hA hd
          obtain ⟨a7, c7, rfl, _⟩ := row7.form
          refine aB (i := 8) (by kernel_rfl) ?_
          refine aE rfl (ev_mt ou_el) rfl rfl ?_ ?_
          · rintro _ _ _ _ ⟨rfl, ⟨bm8, rfl⟩, rfl⟩ w s
            exact (s.pick (.there (.there (.there (.there .here))))).head.mono (le7)
          rintro _ _ _ _ ⟨rfl, ⟨bm8, rfl⟩, rfl⟩
          refine aB (i := 11) (by kernel_rfl) ?_
          refine aE rfl (ev_append_s (n := 0) (m := O.length) (xs := []) (news := rowC ouC O) (K := fun v' => own v' 39 3 O.length (rowC ouC O) :: blk b11 27 zLg :: blk b7 39 (ouC o) :: blk b6 37 (ltC x) :: blk b5 27 [.int .i64 s, .int .i64 tt, .slice al L.length cl, .slice ao O.length co] :: X) rfl rfl ou_el (hO.mono (le7)).rds (ou_rones O) (by omega) (fun v' => by rw [Nat.zero_add, List.nil_append]; exact .here)) rfl rfl ?_ ?_
          · rintro _ _ _ _ ⟨rfl, _, rfl⟩ w s
            exact (s.pick (.there (.there (.there (.there .here))))).head.mono (le7)
          rintro u11 _ _ _ ⟨rfl, _, rfl⟩
          refine aPersist fun hh hA hd => ?_
          have row11 : ouRow (G7.un hh) u11 O := ouRow.of hA hd
          have le11 := PH.le_l G7 hh
          generalize G7.un hh = G11 at *
          clear hA hd
          obtain ⟨a11, c11, rfl, _⟩ := row11.form
          refine aT 12 rfl (ev_build (t := lgC s tt (.slice a7 L.length c7) (.slice a11 O.length c11)) rfl rfl hpl (hfl s tt a7 L.length c7 a11 O.length c11)) rfl rfl ?_ ?_ ?_ ?_; kernel_rfl; kernel_rfl; kernel_rfl
          refine aB (i := 14) (by kernel_rfl) (aN rfl (ev_store (b := b11) (off := 0) rfl rfl .agg rfl rfl (lay_all (zs := zLg) rfl) lgC_ones (.here)) rfl (fun _ _ _ _ hq w s => by obtain ⟨rfl, _, rfl⟩ := hq; exact (s.pick (.there (.there (.there .here)))).head.mono (le7.trans le11)) ?_)
          rintro _ _ _ _ ⟨rfl, _, rfl⟩
          refine aD (by kernel_rfl) ?_
          exact J_joined (G11, .slice a7 L.length c7, .slice a11 O.length c11, b11) ⟨(le7.trans le11), row7.mono le11, row11⟩ ⟨⟨rfl, rfl, rfl, rfl, rfl, rfl, trivial⟩, fun w s => s.pm 4 [0, 1, 2, 3] rfl rfl⟩
        · refine aE rfl (ev_mt ou_el) rfl rfl ?_ ?_
          · rintro _ _ _ _ ⟨rfl, ⟨bm8, rfl⟩, rfl⟩ w s
            exact (s.pick (.there (.there (.there (.there (.there .here)))))).head.mono (PH.ler _)
          rintro _ _ _ _ ⟨rfl, ⟨bm8, rfl⟩, rfl⟩
          refine aB (i := 7) (by kernel_rfl) ?_
          refine aE rfl (ev_append_s (n := 0) (m := L.length) (xs := []) (news := rowC ltC L) (K := fun v' => own (.slice (some ⟨bm8, 0, none⟩) 0 0) 39 3 0 [] :: blk b11 27 zLg :: own v' 37 6 L.length (rowC ltC L) :: blk b7 39 (ouC o) :: blk b6 37 (ltC x) :: blk b5 27 [.int .i64 s, .int .i64 tt, .slice al L.length cl, .slice ao O.length co] :: X) rfl rfl lt_el (hL.mono (PH.ler _)).rds (lt_rones L) (by omega) (fun v' => by rw [Nat.zero_add, List.nil_append]; exact .there (.there .here))) rfl rfl ?_ ?_
          · rintro _ _ _ _ ⟨rfl, _, rfl⟩ w s
            exact (s.pick (.there (.there (.there (.there (.there .here)))))).head.mono (PH.ler _)
          rintro u7 _ _ _ ⟨rfl, _, rfl⟩
          refine aWeak (F' := F1) (H' := own u7 37 6 L.length (rowC ltC L) :: own (.slice (some ⟨bm8, 0, none⟩) 0 0) 39 3 0 [] :: blk b11 27 zLg :: blk b7 39 (ouC o) :: blk b6 37 (ltC x) :: blk b5 27 [.int .i64 s, .int .i64 tt, .slice al L.length cl, .slice ao O.length co] :: X) ?_ (fun w s => (s.pick (.there (.there (.there (.there (.there .here)))))).head.mono (PH.ler _)) (fun w s => s.pm 6 [2, 0, 1, 3, 4, 5] rfl rfl)
          refine aPersist fun hh hA hd => ?_
          have row7 : ltRow (F1.un hh) u7 L := ltRow.of hA hd
          have le7 := PH.le_l F1 hh
          generalize F1.un hh = G7 at *
          clear hA hd
          obtain ⟨a7, c7, rfl, _⟩ := row7.form
          refine aB (i := 11) (by kernel_rfl) ?_
          refine aE rfl (ev_append_s (n := 0) (m := O.length) (xs := []) (news := rowC ouC O) (K := fun v' => own v' 39 3 O.length (rowC ouC O) :: blk b11 27 zLg :: blk b7 39 (ouC o) :: blk b6 37 (ltC x) :: blk b5 27 [.int .i64 s, .int .i64 tt, .slice al L.length cl, .slice ao O.length co] :: X) rfl rfl ou_el (hO.mono (le7)).rds (ou_rones O) (by omega) (fun v' => by rw [Nat.zero_add, List.nil_append]; exact .here)) rfl rfl ?_ ?_
          · rintro _ _ _ _ ⟨rfl, _, rfl⟩ w s
            exact (s.pick (.there (.there (.there (.there .here))))).head.mono (le7)
          rintro u11 _ _ _ ⟨rfl, _, rfl⟩
          refine aPersist fun hh hA hd => ?_
          have row11 : ouRow (G7.un hh) u11 O := ouRow.of hA hd
          have le11 := PH.le_l G7 hh
          generalize G7.un hh = G11 at *
          clear hA hd
          obtain ⟨a11, c11, rfl, _⟩ := row11.form
          refine aT 12 rfl (ev_build (t := lgC s tt (.slice a7 L.length c7) (.slice a11 O.length c11)) rfl rfl hpl (hfl s tt a7 L.length c7 a11 O.length c11)) rfl rfl ?_ ?_ ?_ ?_; kernel_rfl; kernel_rfl; kernel_rfl
          refine aB (i := 14) (by kernel_rfl) (aN rfl (ev_store (b := b11) (off := 0) rfl rfl .agg rfl rfl (lay_all (zs := zLg) rfl) lgC_ones (.here)) rfl (fun _ _ _ _ hq w s => by obtain ⟨rfl, _, rfl⟩ := hq; exact (s.pick (.there (.there (.there .here)))).head.mono (le7.trans le11)) ?_)
          rintro _ _ _ _ ⟨rfl, _, rfl⟩
          refine aD (by kernel_rfl) ?_
          exact J_joined (G11, .slice a7 L.length c7, .slice a11 O.length c11, b11) ⟨(le7.trans le11), row7.mono le11, row11⟩ ⟨⟨rfl, rfl, rfl, rfl, rfl, rfl, trivial⟩, fun w s => s.pm 4 [0, 1, 2, 3] rfl rfl⟩
    · refine aE rfl (ev_mt ou_el) rfl rfl ?_ ?_
      · rintro _ _ _ _ ⟨rfl, ⟨bm8, rfl⟩, rfl⟩ w s
        exact (s.pick (.there (.there (.there .here)))).head.mono (PH.ler _)
      rintro _ _ _ _ ⟨rfl, ⟨bm8, rfl⟩, rfl⟩
      refine aB2 (i := 4) (i' := 13) (by kernel_rfl) ?_ ?_
      · refine aE rfl (ev_mt lt_el) rfl rfl ?_ ?_
        · rintro _ _ _ _ ⟨rfl, ⟨bm4, rfl⟩, rfl⟩ w s
          exact (s.pick (.there (.there (.there (.there .here))))).head.mono (PH.ler _)
        rintro _ _ _ _ ⟨rfl, ⟨bm4, rfl⟩, rfl⟩
        refine aB2 (i := 7) (i' := 13) (by kernel_rfl) ?_ ?_
        · refine aE rfl (ev_append_s (n := 0) (m := L.length) (xs := []) (news := rowC ltC L) (K := fun v' => own v' 37 6 L.length (rowC ltC L) :: own (.slice (some ⟨bm8, 0, none⟩) 0 0) 39 3 0 [] :: blk b7 39 (ouC o) :: blk b6 37 (ltC x) :: blk b5 27 [.int .i64 s, .int .i64 tt, .slice al L.length cl, .slice ao O.length co] :: X) rfl rfl lt_el (hL.mono (PH.ler _)).rds (lt_rones L) (by omega) (fun v' => by rw [Nat.zero_add, List.nil_append]; exact .here)) rfl rfl ?_ ?_
          · rintro _ _ _ _ ⟨rfl, _, rfl⟩ w s
            exact (s.pick (.there (.there (.there (.there .here))))).head.mono (PH.ler _)
          rintro u7 _ _ _ ⟨rfl, _, rfl⟩
          refine aPersist fun hh hA hd => ?_
          have row7 : ltRow (F1.un hh) u7 L := ltRow.of hA hd
          have le7 := PH.le_l F1 hh
          generalize F1.un hh = G7 at *
          clear hA hd
          obtain ⟨a7, c7, rfl, _⟩ := row7.form
          refine aB2 (i := 11) (i' := 13) (by kernel_rfl) ?_ ?_
          · refine aE rfl (ev_append_s (n := 0) (m := O.length) (xs := []) (news := rowC ouC O) (K := fun v' => own v' 39 3 O.length (rowC ouC O) :: blk b7 39 (ouC o) :: blk b6 37 (ltC x) :: blk b5 27 [.int .i64 s, .int .i64 tt, .slice al L.length cl, .slice ao O.length co] :: X) rfl rfl ou_el (hO.mono (le7)).rds (ou_rones O) (by omega) (fun v' => by rw [Nat.zero_add, List.nil_append]; exact .here)) rfl rfl ?_ ?_
            · rintro _ _ _ _ ⟨rfl, _, rfl⟩ w s
              exact (s.pick (.there (.there (.there .here)))).head.mono (le7)
            rintro u11 _ _ _ ⟨rfl, _, rfl⟩
            refine aPersist fun hh hA hd => ?_
            have row11 : ouRow (G7.un hh) u11 O := ouRow.of hA hd
            have le11 := PH.le_l G7 hh
            generalize G7.un hh = G11 at *
            clear hA hd
            obtain ⟨a11, c11, rfl, _⟩ := row11.form
            refine aT 12 rfl (ev_build (t := lgC s tt (.slice a7 L.length c7) (.slice a11 O.length c11)) rfl rfl hpl (hfl s tt a7 L.length c7 a11 O.length c11)) rfl rfl ?_ ?_ ?_ ?_; kernel_rfl; kernel_rfl; kernel_rfl
            refine aB (i := 13) (by kernel_rfl) ?_
            refine aE rfl (ev_alloc (cs := zLg) rfl) rfl rfl ?_ ?_
            · rintro _ _ _ _ ⟨rfl, b11, rfl, rfl⟩ w s
              exact (s.pick (.there (.there (.there .here)))).head.mono (le7.trans le11)
            rintro _ _ _ _ ⟨rfl, b11, rfl, rfl⟩
            refine aB (i := 14) (by kernel_rfl) (aN rfl (ev_store (b := b11) (off := 0) rfl rfl .agg rfl rfl (lay_all (zs := zLg) rfl) lgC_ones (.here)) rfl (fun _ _ _ _ hq w s => by obtain ⟨rfl, _, rfl⟩ := hq; exact (s.pick (.there (.there (.there .here)))).head.mono (le7.trans le11)) ?_)
            rintro _ _ _ _ ⟨rfl, _, rfl⟩
            refine aD (by kernel_rfl) ?_
            exact J_joined (G11, .slice a7 L.length c7, .slice a11 O.length c11, b11) ⟨(le7.trans le11), row7.mono le11, row11⟩ ⟨⟨rfl, rfl, rfl, rfl, rfl, rfl, trivial⟩, fun w s => s.pm 4 [0, 1, 2, 3] rfl rfl⟩
          · refine aE rfl (ev_alloc (cs := zLg) rfl) rfl rfl ?_ ?_
            · rintro _ _ _ _ ⟨rfl, b11, rfl, rfl⟩ w s
              exact (s.pick (.there (.there (.there (.there .here))))).head.mono (le7)
            rintro _ _ _ _ ⟨rfl, b11, rfl, rfl⟩
            refine aB (i := 11) (by kernel_rfl) ?_
            refine aE rfl (ev_append_s (n := 0) (m := O.length) (xs := []) (news := rowC ouC O) (K := fun v' => blk b11 27 zLg :: own v' 39 3 O.length (rowC ouC O) :: blk b7 39 (ouC o) :: blk b6 37 (ltC x) :: blk b5 27 [.int .i64 s, .int .i64 tt, .slice al L.length cl, .slice ao O.length co] :: X) rfl rfl ou_el (hO.mono (le7)).rds (ou_rones O) (by omega) (fun v' => by rw [Nat.zero_add, List.nil_append]; exact .there .here)) rfl rfl ?_ ?_
            · rintro _ _ _ _ ⟨rfl, _, rfl⟩ w s
              exact (s.pick (.there (.there (.there (.there .here))))).head.mono (le7)
            rintro u11 _ _ _ ⟨rfl, _, rfl⟩
            refine aWeak (F' := G7) (H' := own u11 39 3 O.length (rowC ouC O) :: blk b11 27 zLg :: blk b7 39 (ouC o) :: blk b6 37 (ltC x) :: blk b5 27 [.int .i64 s, .int .i64 tt, .slice al L.length cl, .slice ao O.length co] :: X) ?_ (fun w s => (s.pick (.there (.there (.there (.there .here))))).head.mono (le7)) (fun w s => s.pm 5 [1, 0, 2, 3, 4] rfl rfl)
            refine aPersist fun hh hA hd => ?_
            have row11 : ouRow (G7.un hh) u11 O := ouRow.of hA hd
            have le11 := PH.le_l G7 hh
            generalize G7.un hh = G11 at *
            clear hA hd
            obtain ⟨a11, c11, rfl, _⟩ := row11.form
            refine aT 12 rfl (ev_build (t := lgC s tt (.slice a7 L.length c7) (.slice a11 O.length c11)) rfl rfl hpl (hfl s tt a7 L.length c7 a11 O.length c11)) rfl rfl ?_ ?_ ?_ ?_; kernel_rfl; kernel_rfl; kernel_rfl
            refine aB (i := 14) (by kernel_rfl) (aN rfl (ev_store (b := b11) (off := 0) rfl rfl .agg rfl rfl (lay_all (zs := zLg) rfl) lgC_ones (.here)) rfl (fun _ _ _ _ hq w s => by obtain ⟨rfl, _, rfl⟩ := hq; exact (s.pick (.there (.there (.there .here)))).head.mono (le7.trans le11)) ?_)
            rintro _ _ _ _ ⟨rfl, _, rfl⟩
            refine aD (by kernel_rfl) ?_
            exact J_joined (G11, .slice a7 L.length c7, .slice a11 O.length c11, b11) ⟨(le7.trans le11), row7.mono le11, row11⟩ ⟨⟨rfl, rfl, rfl, rfl, rfl, rfl, trivial⟩, fun w s => s.pm 4 [0, 1, 2, 3] rfl rfl⟩
        · refine aE rfl (ev_alloc (cs := zLg) rfl) rfl rfl ?_ ?_
          · rintro _ _ _ _ ⟨rfl, b11, rfl, rfl⟩ w s
            exact (s.pick (.there (.there (.there (.there (.there .here)))))).head.mono (PH.ler _)
          rintro _ _ _ _ ⟨rfl, b11, rfl, rfl⟩
          refine aB (i := 7) (by kernel_rfl) ?_
          refine aE rfl (ev_append_s (n := 0) (m := L.length) (xs := []) (news := rowC ltC L) (K := fun v' => blk b11 27 zLg :: own v' 37 6 L.length (rowC ltC L) :: own (.slice (some ⟨bm8, 0, none⟩) 0 0) 39 3 0 [] :: blk b7 39 (ouC o) :: blk b6 37 (ltC x) :: blk b5 27 [.int .i64 s, .int .i64 tt, .slice al L.length cl, .slice ao O.length co] :: X) rfl rfl lt_el (hL.mono (PH.ler _)).rds (lt_rones L) (by omega) (fun v' => by rw [Nat.zero_add, List.nil_append]; exact .there .here)) rfl rfl ?_ ?_
          · rintro _ _ _ _ ⟨rfl, _, rfl⟩ w s
            exact (s.pick (.there (.there (.there (.there (.there .here)))))).head.mono (PH.ler _)
          rintro u7 _ _ _ ⟨rfl, _, rfl⟩
          refine aWeak (F' := F1) (H' := own u7 37 6 L.length (rowC ltC L) :: blk b11 27 zLg :: own (.slice (some ⟨bm8, 0, none⟩) 0 0) 39 3 0 [] :: blk b7 39 (ouC o) :: blk b6 37 (ltC x) :: blk b5 27 [.int .i64 s, .int .i64 tt, .slice al L.length cl, .slice ao O.length co] :: X) ?_ (fun w s => (s.pick (.there (.there (.there (.there (.there .here)))))).head.mono (PH.ler _)) (fun w s => s.pm 6 [1, 0, 2, 3, 4, 5] rfl rfl)
          refine aPersist fun hh hA hd => ?_
          have row7 : ltRow (F1.un hh) u7 L := ltRow.of hA hd
          have le7 := PH.le_l F1 hh
          generalize F1.un hh = G7 at *
          clear hA hd
          obtain ⟨a7, c7, rfl, _⟩ := row7.form
          refine aB (i := 11) (by kernel_rfl) ?_
          refine aE rfl (ev_append_s (n := 0) (m := O.length) (xs := []) (news := rowC ouC O) (K := fun v' => blk b11 27 zLg :: own v' 39 3 O.length (rowC ouC O) :: blk b7 39 (ouC o) :: blk b6 37 (ltC x) :: blk b5 27 [.int .i64 s, .int .i64 tt, .slice al L.length cl, .slice ao O.length co] :: X) rfl rfl ou_el (hO.mono (le7)).rds (ou_rones O) (by omega) (fun v' => by rw [Nat.zero_add, List.nil_append]; exact .there .here)) rfl rfl ?_ ?_
          · rintro _ _ _ _ ⟨rfl, _, rfl⟩ w s
            exact (s.pick (.there (.there (.there (.there .here))))).head.mono (le7)
          rintro u11 _ _ _ ⟨rfl, _, rfl⟩
          refine aWeak (F' := G7) (H' := own u11 39 3 O.length (rowC ouC O) :: blk b11 27 zLg :: blk b7 39 (ouC o) :: blk b6 37 (ltC x) :: blk b5 27 [.int .i64 s, .int .i64 tt, .slice al L.length cl, .slice ao O.length co] :: X) ?_ (fun w s => (s.pick (.there (.there (.there (.there .here))))).head.mono (le7)) (fun w s => s.pm 5 [1, 0, 2, 3, 4] rfl rfl)
          refine aPersist fun hh hA hd => ?_
          have row11 : ouRow (G7.un hh) u11 O := ouRow.of hA hd
          have le11 := PH.le_l G7 hh
          generalize G7.un hh = G11 at *
          clear hA hd
          obtain ⟨a11, c11, rfl, _⟩ := row11.form
          refine aT 12 rfl (ev_build (t := lgC s tt (.slice a7 L.length c7) (.slice a11 O.length c11)) rfl rfl hpl (hfl s tt a7 L.length c7 a11 O.length c11)) rfl rfl ?_ ?_ ?_ ?_; kernel_rfl; kernel_rfl; kernel_rfl
          refine aB (i := 14) (by kernel_rfl) (aN rfl (ev_store (b := b11) (off := 0) rfl rfl .agg rfl rfl (lay_all (zs := zLg) rfl) lgC_ones (.here)) rfl (fun _ _ _ _ hq w s => by obtain ⟨rfl, _, rfl⟩ := hq; exact (s.pick (.there (.there (.there .here)))).head.mono (le7.trans le11)) ?_)
          rintro _ _ _ _ ⟨rfl, _, rfl⟩
          refine aD (by kernel_rfl) ?_
          exact J_joined (G11, .slice a7 L.length c7, .slice a11 O.length c11, b11) ⟨(le7.trans le11), row7.mono le11, row11⟩ ⟨⟨rfl, rfl, rfl, rfl, rfl, rfl, trivial⟩, fun w s => s.pm 4 [0, 1, 2, 3] rfl rfl⟩
      · refine aE rfl (ev_alloc (cs := zLg) rfl) rfl rfl ?_ ?_
        · rintro _ _ _ _ ⟨rfl, b11, rfl, rfl⟩ w s
          exact (s.pick (.there (.there (.there (.there .here))))).head.mono (PH.ler _)
        rintro _ _ _ _ ⟨rfl, b11, rfl, rfl⟩
        refine aB (i := 4) (by kernel_rfl) ?_
        refine aE rfl (ev_mt lt_el) rfl rfl ?_ ?_
        · rintro _ _ _ _ ⟨rfl, ⟨bm4, rfl⟩, rfl⟩ w s
          exact (s.pick (.there (.there (.there (.there (.there .here)))))).head.mono (PH.ler _)
        rintro _ _ _ _ ⟨rfl, ⟨bm4, rfl⟩, rfl⟩
        refine aB (i := 7) (by kernel_rfl) ?_
        refine aE rfl (ev_append_s (n := 0) (m := L.length) (xs := []) (news := rowC ltC L) (K := fun v' => own v' 37 6 L.length (rowC ltC L) :: blk b11 27 zLg :: own (.slice (some ⟨bm8, 0, none⟩) 0 0) 39 3 0 [] :: blk b7 39 (ouC o) :: blk b6 37 (ltC x) :: blk b5 27 [.int .i64 s, .int .i64 tt, .slice al L.length cl, .slice ao O.length co] :: X) rfl rfl lt_el (hL.mono (PH.ler _)).rds (lt_rones L) (by omega) (fun v' => by rw [Nat.zero_add, List.nil_append]; exact .here)) rfl rfl ?_ ?_
        · rintro _ _ _ _ ⟨rfl, _, rfl⟩ w s
          exact (s.pick (.there (.there (.there (.there (.there .here)))))).head.mono (PH.ler _)
        rintro u7 _ _ _ ⟨rfl, _, rfl⟩
        refine aPersist fun hh hA hd => ?_
        have row7 : ltRow (F1.un hh) u7 L := ltRow.of hA hd
        have le7 := PH.le_l F1 hh
        generalize F1.un hh = G7 at *
        clear hA hd
        obtain ⟨a7, c7, rfl, _⟩ := row7.form
        refine aB (i := 11) (by kernel_rfl) ?_
        refine aE rfl (ev_append_s (n := 0) (m := O.length) (xs := []) (news := rowC ouC O) (K := fun v' => blk b11 27 zLg :: own v' 39 3 O.length (rowC ouC O) :: blk b7 39 (ouC o) :: blk b6 37 (ltC x) :: blk b5 27 [.int .i64 s, .int .i64 tt, .slice al L.length cl, .slice ao O.length co] :: X) rfl rfl ou_el (hO.mono (le7)).rds (ou_rones O) (by omega) (fun v' => by rw [Nat.zero_add, List.nil_append]; exact .there .here)) rfl rfl ?_ ?_
        · rintro _ _ _ _ ⟨rfl, _, rfl⟩ w s
          exact (s.pick (.there (.there (.there (.there .here))))).head.mono (le7)
        rintro u11 _ _ _ ⟨rfl, _, rfl⟩
        refine aWeak (F' := G7) (H' := own u11 39 3 O.length (rowC ouC O) :: blk b11 27 zLg :: blk b7 39 (ouC o) :: blk b6 37 (ltC x) :: blk b5 27 [.int .i64 s, .int .i64 tt, .slice al L.length cl, .slice ao O.length co] :: X) ?_ (fun w s => (s.pick (.there (.there (.there (.there .here))))).head.mono (le7)) (fun w s => s.pm 5 [1, 0, 2, 3, 4] rfl rfl)
        refine aPersist fun hh hA hd => ?_
        have row11 : ouRow (G7.un hh) u11 O := ouRow.of hA hd
        have le11 := PH.le_l G7 hh
        generalize G7.un hh = G11 at *
        clear hA hd
        obtain ⟨a11, c11, rfl, _⟩ := row11.form
        refine aT 12 rfl (ev_build (t := lgC s tt (.slice a7 L.length c7) (.slice a11 O.length c11)) rfl rfl hpl (hfl s tt a7 L.length c7 a11 O.length c11)) rfl rfl ?_ ?_ ?_ ?_; kernel_rfl; kernel_rfl; kernel_rfl
        refine aB (i := 14) (by kernel_rfl) (aN rfl (ev_store (b := b11) (off := 0) rfl rfl .agg rfl rfl (lay_all (zs := zLg) rfl) lgC_ones (.here)) rfl (fun _ _ _ _ hq w s => by obtain ⟨rfl, _, rfl⟩ := hq; exact (s.pick (.there (.there (.there .here)))).head.mono (le7.trans le11)) ?_)
        rintro _ _ _ _ ⟨rfl, _, rfl⟩
        refine aD (by kernel_rfl) ?_
        exact J_joined (G11, .slice a7 L.length c7, .slice a11 O.length c11, b11) ⟨(le7.trans le11), row7.mono le11, row11⟩ ⟨⟨rfl, rfl, rfl, rfl, rfl, rfl, trivial⟩, fun w s => s.pm 4 [0, 1, 2, 3] rfl rfl⟩
    · refine aE rfl (ev_alloc (cs := zLg) rfl) rfl rfl ?_ ?_
      · rintro _ _ _ _ ⟨rfl, b11, rfl, rfl⟩ w s
        exact (s.pick (.there (.there (.there .here)))).head.mono (PH.ler _)
      rintro _ _ _ _ ⟨rfl, b11, rfl, rfl⟩
      refine aB2 (i := 4) (i' := 8) (by kernel_rfl) ?_ ?_
      · refine aE rfl (ev_mt lt_el) rfl rfl ?_ ?_
        · rintro _ _ _ _ ⟨rfl, ⟨bm4, rfl⟩, rfl⟩ w s
          exact (s.pick (.there (.there (.there (.there .here))))).head.mono (PH.ler _)
        rintro _ _ _ _ ⟨rfl, ⟨bm4, rfl⟩, rfl⟩
        refine aB2 (i := 7) (i' := 8) (by kernel_rfl) ?_ ?_
        · refine aE rfl (ev_append_s (n := 0) (m := L.length) (xs := []) (news := rowC ltC L) (K := fun v' => own v' 37 6 L.length (rowC ltC L) :: blk b11 27 zLg :: blk b7 39 (ouC o) :: blk b6 37 (ltC x) :: blk b5 27 [.int .i64 s, .int .i64 tt, .slice al L.length cl, .slice ao O.length co] :: X) rfl rfl lt_el (hL.mono (PH.ler _)).rds (lt_rones L) (by omega) (fun v' => by rw [Nat.zero_add, List.nil_append]; exact .here)) rfl rfl ?_ ?_
          · rintro _ _ _ _ ⟨rfl, _, rfl⟩ w s
            exact (s.pick (.there (.there (.there (.there .here))))).head.mono (PH.ler _)
          rintro u7 _ _ _ ⟨rfl, _, rfl⟩
          refine aPersist fun hh hA hd => ?_
          have row7 : ltRow (F1.un hh) u7 L := ltRow.of hA hd
          have le7 := PH.le_l F1 hh
          generalize F1.un hh = G7 at *
          clear hA hd
          obtain ⟨a7, c7, rfl, _⟩ := row7.form
          refine aB (i := 8) (by kernel_rfl) ?_
          refine aE rfl (ev_mt ou_el) rfl rfl ?_ ?_
          · rintro _ _ _ _ ⟨rfl, ⟨bm8, rfl⟩, rfl⟩ w s
            exact (s.pick (.there (.there (.there (.there .here))))).head.mono (le7)
          rintro _ _ _ _ ⟨rfl, ⟨bm8, rfl⟩, rfl⟩
          refine aB (i := 11) (by kernel_rfl) ?_
          refine aE rfl (ev_append_s (n := 0) (m := O.length) (xs := []) (news := rowC ouC O) (K := fun v' => own v' 39 3 O.length (rowC ouC O) :: blk b11 27 zLg :: blk b7 39 (ouC o) :: blk b6 37 (ltC x) :: blk b5 27 [.int .i64 s, .int .i64 tt, .slice al L.length cl, .slice ao O.length co] :: X) rfl rfl ou_el (hO.mono (le7)).rds (ou_rones O) (by omega) (fun v' => by rw [Nat.zero_add, List.nil_append]; exact .here)) rfl rfl ?_ ?_
          · rintro _ _ _ _ ⟨rfl, _, rfl⟩ w s
            exact (s.pick (.there (.there (.there (.there .here))))).head.mono (le7)
          rintro u11 _ _ _ ⟨rfl, _, rfl⟩
          refine aPersist fun hh hA hd => ?_
          have row11 : ouRow (G7.un hh) u11 O := ouRow.of hA hd
          have le11 := PH.le_l G7 hh
          generalize G7.un hh = G11 at *
          clear hA hd
          obtain ⟨a11, c11, rfl, _⟩ := row11.form
          refine aT 12 rfl (ev_build (t := lgC s tt (.slice a7 L.length c7) (.slice a11 O.length c11)) rfl rfl hpl (hfl s tt a7 L.length c7 a11 O.length c11)) rfl rfl ?_ ?_ ?_ ?_; kernel_rfl; kernel_rfl; kernel_rfl
          refine aB (i := 14) (by kernel_rfl) (aN rfl (ev_store (b := b11) (off := 0) rfl rfl .agg rfl rfl (lay_all (zs := zLg) rfl) lgC_ones (.here)) rfl (fun _ _ _ _ hq w s => by obtain ⟨rfl, _, rfl⟩ := hq; exact (s.pick (.there (.there (.there .here)))).head.mono (le7.trans le11)) ?_)
          rintro _ _ _ _ ⟨rfl, _, rfl⟩
          refine aD (by kernel_rfl) ?_
          exact J_joined (G11, .slice a7 L.length c7, .slice a11 O.length c11, b11) ⟨(le7.trans le11), row7.mono le11, row11⟩ ⟨⟨rfl, rfl, rfl, rfl, rfl, rfl, trivial⟩, fun w s => s.pm 4 [0, 1, 2, 3] rfl rfl⟩
        · refine aE rfl (ev_mt ou_el) rfl rfl ?_ ?_
          · rintro _ _ _ _ ⟨rfl, ⟨bm8, rfl⟩, rfl⟩ w s
            exact (s.pick (.there (.there (.there (.there (.there .here)))))).head.mono (PH.ler _)
          rintro _ _ _ _ ⟨rfl, ⟨bm8, rfl⟩, rfl⟩
          refine aB (i := 7) (by kernel_rfl) ?_
          refine aE rfl (ev_append_s (n := 0) (m := L.length) (xs := []) (news := rowC ltC L) (K := fun v' => own (.slice (some ⟨bm8, 0, none⟩) 0 0) 39 3 0 [] :: own v' 37 6 L.length (rowC ltC L) :: blk b11 27 zLg :: blk b7 39 (ouC o) :: blk b6 37 (ltC x) :: blk b5 27 [.int .i64 s, .int .i64 tt, .slice al L.length cl, .slice ao O.length co] :: X) rfl rfl lt_el (hL.mono (PH.ler _)).rds (lt_rones L) (by omega) (fun v' => by rw [Nat.zero_add, List.nil_append]; exact .there .here)) rfl rfl ?_ ?_
          · rintro _ _ _ _ ⟨rfl, _, rfl⟩ w s
            exact (s.pick (.there (.there (.there (.there (.there .here)))))).head.mono (PH.ler _)
          rintro u7 _ _ _ ⟨rfl, _, rfl⟩
          refine aWeak (F' := F1) (H' := own u7 37 6 L.length (rowC ltC L) :: own (.slice (some ⟨bm8, 0, none⟩) 0 0) 39 3 0 [] :: blk b11 27 zLg :: blk b7 39 (ouC o) :: blk b6 37 (ltC x) :: blk b5 27 [.int .i64 s, .int .i64 tt, .slice al L.length cl, .slice ao O.length co] :: X) ?_ (fun w s => (s.pick (.there (.there (.there (.there (.there .here)))))).head.mono (PH.ler _)) (fun w s => s.pm 6 [1, 0, 2, 3, 4, 5] rfl rfl)
          refine aPersist fun hh hA hd => ?_
          have row7 : ltRow (F1.un hh) u7 L := ltRow.of hA hd
          have le7 := PH.le_l F1 hh
          generalize F1.un hh = G7 at *
          clear hA hd
          obtain ⟨a7, c7, rfl, _⟩ := row7.form
          refine aB (i := 11) (by kernel_rfl) ?_
          refine aE rfl (ev_append_s (n := 0) (m := O.length) (xs := []) (news := rowC ouC O) (K := fun v' => own v' 39 3 O.length (rowC ouC O) :: blk b11 27 zLg :: blk b7 39 (ouC o) :: blk b6 37 (ltC x) :: blk b5 27 [.int .i64 s, .int .i64 tt, .slice al L.length cl, .slice ao O.length co] :: X) rfl rfl ou_el (hO.mono (le7)).rds (ou_rones O) (by omega) (fun v' => by rw [Nat.zero_add, List.nil_append]; exact .here)) rfl rfl ?_ ?_
          · rintro _ _ _ _ ⟨rfl, _, rfl⟩ w s
            exact (s.pick (.there (.there (.there (.there .here))))).head.mono (le7)
          rintro u11 _ _ _ ⟨rfl, _, rfl⟩
          refine aPersist fun hh hA hd => ?_
          have row11 : ouRow (G7.un hh) u11 O := ouRow.of hA hd
          have le11 := PH.le_l G7 hh
          generalize G7.un hh = G11 at *
          clear hA hd
          obtain ⟨a11, c11, rfl, _⟩ := row11.form
          refine aT 12 rfl (ev_build (t := lgC s tt (.slice a7 L.length c7) (.slice a11 O.length c11)) rfl rfl hpl (hfl s tt a7 L.length c7 a11 O.length c11)) rfl rfl ?_ ?_ ?_ ?_; kernel_rfl; kernel_rfl; kernel_rfl
          refine aB (i := 14) (by kernel_rfl) (aN rfl (ev_store (b := b11) (off := 0) rfl rfl .agg rfl rfl (lay_all (zs := zLg) rfl) lgC_ones (.here)) rfl (fun _ _ _ _ hq w s => by obtain ⟨rfl, _, rfl⟩ := hq; exact (s.pick (.there (.there (.there .here)))).head.mono (le7.trans le11)) ?_)
          rintro _ _ _ _ ⟨rfl, _, rfl⟩
          refine aD (by kernel_rfl) ?_
          exact J_joined (G11, .slice a7 L.length c7, .slice a11 O.length c11, b11) ⟨(le7.trans le11), row7.mono le11, row11⟩ ⟨⟨rfl, rfl, rfl, rfl, rfl, rfl, trivial⟩, fun w s => s.pm 4 [0, 1, 2, 3] rfl rfl⟩
      · refine aE rfl (ev_mt ou_el) rfl rfl ?_ ?_
        · rintro _ _ _ _ ⟨rfl, ⟨bm8, rfl⟩, rfl⟩ w s
          exact (s.pick (.there (.there (.there (.there .here))))).head.mono (PH.ler _)
        rintro _ _ _ _ ⟨rfl, ⟨bm8, rfl⟩, rfl⟩
        refine aB (i := 4) (by kernel_rfl) ?_
        refine aE rfl (ev_mt lt_el) rfl rfl ?_ ?_
        · rintro _ _ _ _ ⟨rfl, ⟨bm4, rfl⟩, rfl⟩ w s
          exact (s.pick (.there (.there (.there (.there (.there .here)))))).head.mono (PH.ler _)
        rintro _ _ _ _ ⟨rfl, ⟨bm4, rfl⟩, rfl⟩
        refine aB (i := 7) (by kernel_rfl) ?_
        refine aE rfl (ev_append_s (n := 0) (m := L.length) (xs := []) (news := rowC ltC L) (K := fun v' => own v' 37 6 L.length (rowC ltC L) :: own (.slice (some ⟨bm8, 0, none⟩) 0 0) 39 3 0 [] :: blk b11 27 zLg :: blk b7 39 (ouC o) :: blk b6 37 (ltC x) :: blk b5 27 [.int .i64 s, .int .i64 tt, .slice al L.length cl, .slice ao O.length co] :: X) rfl rfl lt_el (hL.mono (PH.ler _)).rds (lt_rones L) (by omega) (fun v' => by rw [Nat.zero_add, List.nil_append]; exact .here)) rfl rfl ?_ ?_
        · rintro _ _ _ _ ⟨rfl, _, rfl⟩ w s
          exact (s.pick (.there (.there (.there (.there (.there .here)))))).head.mono (PH.ler _)
        rintro u7 _ _ _ ⟨rfl, _, rfl⟩
        refine aPersist fun hh hA hd => ?_
        have row7 : ltRow (F1.un hh) u7 L := ltRow.of hA hd
        have le7 := PH.le_l F1 hh
        generalize F1.un hh = G7 at *
        clear hA hd
        obtain ⟨a7, c7, rfl, _⟩ := row7.form
        refine aB (i := 11) (by kernel_rfl) ?_
        refine aE rfl (ev_append_s (n := 0) (m := O.length) (xs := []) (news := rowC ouC O) (K := fun v' => own v' 39 3 O.length (rowC ouC O) :: blk b11 27 zLg :: blk b7 39 (ouC o) :: blk b6 37 (ltC x) :: blk b5 27 [.int .i64 s, .int .i64 tt, .slice al L.length cl, .slice ao O.length co] :: X) rfl rfl ou_el (hO.mono (le7)).rds (ou_rones O) (by omega) (fun v' => by rw [Nat.zero_add, List.nil_append]; exact .here)) rfl rfl ?_ ?_
        · rintro _ _ _ _ ⟨rfl, _, rfl⟩ w s
          exact (s.pick (.there (.there (.there (.there .here))))).head.mono (le7)
        rintro u11 _ _ _ ⟨rfl, _, rfl⟩
        refine aPersist fun hh hA hd => ?_
        have row11 : ouRow (G7.un hh) u11 O := ouRow.of hA hd
        have le11 := PH.le_l G7 hh
        generalize G7.un hh = G11 at *
        clear hA hd
        obtain ⟨a11, c11, rfl, _⟩ := row11.form
        refine aT 12 rfl (ev_build (t := lgC s tt (.slice a7 L.length c7) (.slice a11 O.length c11)) rfl rfl hpl (hfl s tt a7 L.length c7 a11 O.length c11)) rfl rfl ?_ ?_ ?_ ?_; kernel_rfl; kernel_rfl; kernel_rfl
        refine aB (i := 14) (by kernel_rfl) (aN rfl (ev_store (b := b11) (off := 0) rfl rfl .agg rfl rfl (lay_all (zs := zLg) rfl) lgC_ones (.here)) rfl (fun _ _ _ _ hq w s => by obtain ⟨rfl, _, rfl⟩ := hq; exact (s.pick (.there (.there (.there .here)))).head.mono (le7.trans le11)) ?_)
        rintro _ _ _ _ ⟨rfl, _, rfl⟩
        refine aD (by kernel_rfl) ?_
        exact J_joined (G11, .slice a7 L.length c7, .slice a11 O.length c11, b11) ⟨(le7.trans le11), row7.mono le11, row11⟩ ⟨⟨rfl, rfl, rfl, rfl, rfl, rfl, trivial⟩, fun w s => s.pm 4 [0, 1, 2, 3] rfl rfl⟩
  rintro ⟨G, vw, vw', b11⟩ ⟨hG, rowW, rowW'⟩
  dsimp only at hG rowW rowW' ⊢
  have hwas : LgV G (lgC s tt vw vw') (s, tt, L, O, ()) := ⟨_, _, rfl, rowW, rowW'⟩
  have qw := hwas.len
  generalize lgC s tt vw vw' = cw at *
  have hv1 := hv.mono hG
  have hle := hF1.trans hG
  clear rowW rowW' hG hF1
  repeat (first|refine zJ rfl rfl ?_|refine jr rfl ?_|refine jn ?_|refine zM rfl rfl ?_|(refine zC rfl rfl ?_ rfl ?_;omega)|(refine zD rfl rfl ?_ rfl ?_;omega)|(refine zP rfl ?_ rfl ?_;omega)|refine zG rfl rfl rfl rfl ?_|(refine jdq rfl rfl ?_ ?_ ?_;kernel_rfl;kernel_rfl)|refine zB rfl rfl rfl (by repeat constructor) rfl ?_)
  refine oS (ev_load_agg (cs := [.int .i64 s, .int .i64 tt, .slice al L.length cl, .slice ao O.length co]) rfl rfl (rdb_all (.there (.there (.there .here)))) rfl) rfl ?_
  refine oS (ev_load_agg (cs := ltC x) rfl rfl (rdb_all (.there (.there .here))) (lt_len x)) rfl ?_
  have hvk := hv1.mono (PH.ler _)
  refine oC (Hc := []) (Hr := blk b11 27 cw :: blk b7 39 (ouC o) :: blk b6 37 (ltC x) :: blk b5 27 [.int .i64 s, .int .i64 tt, .slice al L.length cl, .slice ao O.length co] :: X) (with_spec (s, tt, L, O, ()) [.int .i64 s, .int .i64 tt, .slice al L.length cl, .slice ao O.length co] x G hvk (by dsimp only; omega) (by dsimp only; omega) (by omega)) Try.call13 rfl rfl (fun _ s => s) ?_
  clear hvk
  rintro _ H1 _ hH1 ⟨rfl, d12, rfl, hd12⟩
  have q12 := hd12.len
  repeat (first|refine zJ rfl rfl ?_|refine jr rfl ?_|refine jn ?_|refine zM rfl rfl ?_|(refine zC rfl rfl ?_ rfl ?_;omega)|(refine zD rfl rfl ?_ rfl ?_;omega)|(refine zP rfl ?_ rfl ?_;omega)|refine zG rfl rfl rfl rfl ?_|(refine jdq rfl rfl ?_ ?_ ?_;kernel_rfl;kernel_rfl)|refine zB rfl rfl rfl (by repeat constructor) rfl ?_)
  refine oE (ev_alloc (cs := zLg) rfl) rfl ?_
  rintro _ _ _ _ ⟨rfl, b12, rfl, rfl⟩
  refine oN (ev_store (b := b12) (off := 0) rfl rfl .agg rfl q12.1 (lay_all (zs := zLg) q12.1) q12.2 .here) rfl ?_
  rintro _ _ _ _ ⟨rfl, _, rfl⟩
  repeat (first|refine zJ rfl rfl ?_|refine jr rfl ?_|refine jn ?_|refine zM rfl rfl ?_|(refine zC rfl rfl ?_ rfl ?_;omega)|(refine zD rfl rfl ?_ rfl ?_;omega)|(refine zP rfl ?_ rfl ?_;omega)|refine zG rfl rfl rfl rfl ?_|(refine jdq rfl rfl ?_ ?_ ?_;kernel_rfl;kernel_rfl)|refine zB rfl rfl rfl (by repeat constructor) rfl ?_)
  refine oS (ev_load_agg (cs := [.int .i64 s, .int .i64 tt, .slice al L.length cl, .slice ao O.length co]) rfl rfl (rdb_all (.there (.there (.there (.there .here))))) rfl) rfl ?_
  refine oS (ev_load_agg (cs := ltC x) rfl rfl (rdb_all (.there (.there (.there .here)))) (lt_len x)) rfl ?_
  have hvk := hv1.mono (hH1)
  refine oC (Hc := []) (Hr := blk b12 27 d12 :: blk b11 27 cw :: blk b7 39 (ouC o) :: blk b6 37 (ltC x) :: blk b5 27 [.int .i64 s, .int .i64 tt, .slice al L.length cl, .slice ao O.length co] :: X) (With_spec (s, tt, L, O, ()) [.int .i64 s, .int .i64 tt, .slice al L.length cl, .slice ao O.length co] x H1 hvk (by dsimp only; omega) (by dsimp only; omega) (by omega)) Try.call14 rfl rfl (fun _ s => s) ?_
  clear hvk
  rintro _ H2 _ hH2 ⟨rfl, d14, rfl, hd14⟩
  have q14 := hd14.len
  repeat (first|refine zJ rfl rfl ?_|refine jr rfl ?_|refine jn ?_|refine zM rfl rfl ?_|(refine zC rfl rfl ?_ rfl ?_;omega)|(refine zD rfl rfl ?_ rfl ?_;omega)|(refine zP rfl ?_ rfl ?_;omega)|refine zG rfl rfl rfl rfl ?_|(refine jdq rfl rfl ?_ ?_ ?_;kernel_rfl;kernel_rfl)|refine zB rfl rfl rfl (by repeat constructor) rfl ?_)
  refine oE (ev_alloc (cs := zLg) rfl) rfl ?_
  rintro _ _ _ _ ⟨rfl, b14, rfl, rfl⟩
  refine oN (ev_store (b := b14) (off := 0) rfl rfl .agg rfl q14.1 (lay_all (zs := zLg) q14.1) q14.2 .here) rfl ?_
  rintro _ _ _ _ ⟨rfl, _, rfl⟩
  have hv8 := hv1.mono (hH1.trans (hH2))
  repeat (first|refine zJ rfl rfl ?_|refine jr rfl ?_|refine jn ?_|refine zM rfl rfl ?_|(refine zC rfl rfl ?_ rfl ?_;omega)|(refine zD rfl rfl ?_ rfl ?_;omega)|(refine zP rfl ?_ rfl ?_;omega)|refine zG rfl rfl rfl rfl ?_|(refine jdq rfl rfl ?_ ?_ ?_;kernel_rfl;kernel_rfl)|refine zB rfl rfl rfl (by repeat constructor) rfl ?_)
  refine J_join [_] (fun q : PH × List Value × List Value × Nat × Nat => H2.le q.1 ∧ LgV q.1 q.2.1 (toldP (s, tt, L, O, ()) o) ∧ LgV q.1 q.2.2.1 (toldP (s, tt, L, O, ()) o)) (fun q => [(3, .string (strOf name)), (4, .int .i64 client), (5, .pointer (some ⟨b5, 0, none⟩)), (6, .pointer (some ⟨b6, 0, none⟩)), (7, .pointer (some ⟨b7, 0, none⟩)), (11, .pointer (some ⟨b11, 0, none⟩)), (12, .pointer (some ⟨b12, 0, none⟩)), (13, .int .i64 (withP (s, tt, L, O, ()) x).2), (14, .pointer (some ⟨b14, 0, none⟩)), (15, .int .i64 (withP (s, tt, L, O, ()) x).2), (16, .pointer (some ⟨q.2.2.2.1, 0, none⟩)), (17, .pointer (some ⟨q.2.2.2.2, 0, none⟩))]) (fun q => q.1) (fun q => blk q.2.2.2.2 27 q.2.2.1 :: blk q.2.2.2.1 27 q.2.1 :: blk b14 27 d14 :: blk b12 27 d12 :: blk b11 27 cw :: blk b7 39 (ouC o) :: blk b6 37 (ltC x) :: blk b5 27 [.int .i64 s, .int .i64 tt, .slice al L.length cl, .slice ao O.length co] :: X) ?_ ?_
  · refine ja H2 [blk b7 39 (ouC o), blk b5 27 [.int .i64 s, .int .i64 tt, .slice al L.length cl, .slice ao O.length co]] ?_ (fun w s => (Sat.left (A := [_, _]) (s.pm 6 [3, 5, 0, 1, 2, 4] rfl rfl))) ?_; kernel_rfl
    refine aT 0 rfl (ev_load_agg (cs := [.int .i64 s, .int .i64 tt, .slice al L.length cl, .slice ao O.length co]) rfl rfl (rdb_all (.there .here)) rfl) rfl rfl ?_ ?_ ?_ ?_; kernel_rfl; kernel_rfl; kernel_rfl
    refine aT 1 rfl (ev_load_agg (cs := ouC o) rfl rfl (rdb_all .here) (ou_len o)) rfl rfl ?_ ?_ ?_ ?_; kernel_rfl; kernel_rfl; kernel_rfl
    refine aT 3 rfl (ev_load_agg (cs := [.int .i64 s, .int .i64 tt, .slice al L.length cl, .slice ao O.length co]) rfl rfl (rdb_all (.there .here)) rfl) rfl rfl ?_ ?_ ?_ ?_; kernel_rfl; kernel_rfl; kernel_rfl
    refine aT 4 rfl (ev_load_agg (cs := ouC o) rfl rfl (rdb_all .here) (ou_len o)) rfl rfl ?_ ?_ ?_ ?_; kernel_rfl; kernel_rfl; kernel_rfl
    refine aB3 (i := 2) (i' := 6) (i'' := 7) (by kernel_rfl) ?_ ?_ ?_
    · refine aC (Hc := []) (Hr := blk b14 27 d14 :: blk b12 27 d12 :: blk b11 27 cw :: blk b7 39 (ouC o) :: blk b6 37 (ltC x) :: blk b5 27 [.int .i64 s, .int .i64 tt, .slice al L.length cl, .slice ao O.length co] :: X) rfl (told_spec (s, tt, L, O, ()) [.int .i64 s, .int .i64 tt, .slice al L.length cl, .slice ao O.length co] o H2 (hv8.mono (PH.ler _)) (by dsimp only; omega) (by dsimp only; omega)) Try.call15 rfl rfl rfl (fun _ s => s) (fun _ _ _ hF hq w s => by obtain ⟨rfl, _⟩ := hq; exact (Sat.left (A := [_, _]) (s.pm 6 [3, 5, 0, 1, 2, 4] rfl rfl)).mono (hF)) ?_
      rintro _ K1 _ hK1 ⟨rfl, d16, rfl, hvd16⟩
      have qd16 := hvd16.len
      refine aB3 (i := 5) (i' := 6) (i'' := 7) (by kernel_rfl) ?_ ?_ ?_
      · refine aC (Hc := []) (Hr := blk b14 27 d14 :: blk b12 27 d12 :: blk b11 27 cw :: blk b7 39 (ouC o) :: blk b6 37 (ltC x) :: blk b5 27 [.int .i64 s, .int .i64 tt, .slice al L.length cl, .slice ao O.length co] :: X) rfl (Told_spec (s, tt, L, O, ()) [.int .i64 s, .int .i64 tt, .slice al L.length cl, .slice ao O.length co] o K1 (hv8.mono (hK1)) (by dsimp only; omega) (by dsimp only; omega)) Try.call16 rfl rfl rfl (fun _ s => s) (fun _ _ _ hF hq w s => by obtain ⟨rfl, _⟩ := hq; exact (Sat.left (A := [_, _]) (s.pm 6 [3, 5, 0, 1, 2, 4] rfl rfl)).mono (hK1.trans hF)) ?_
        rintro _ K2 _ hK2 ⟨rfl, d17, rfl, hvd17⟩
        have qd17 := hvd17.len
        refine aB2 (i := 6) (i' := 7) (by kernel_rfl) ?_ ?_
        · refine aE rfl (ev_alloc (cs := zLg) rfl) rfl rfl ?_ ?_
          · rintro _ _ _ _ ⟨rfl, b16, rfl, rfl⟩ w s
            exact (Sat.left (A := [_, _]) (s.pm 7 [4, 6, 0, 1, 2, 3, 5] rfl rfl)).mono (hK1.trans hK2)
          rintro _ _ _ _ ⟨rfl, b16, rfl, rfl⟩
          refine aB (i := 7) (by kernel_rfl) ?_
          refine aE rfl (ev_alloc (cs := zLg) rfl) rfl rfl ?_ ?_
          · rintro _ _ _ _ ⟨rfl, b17, rfl, rfl⟩ w s
            exact (Sat.left (A := [_, _]) (s.pm 8 [5, 7, 0, 1, 2, 3, 4, 6] rfl rfl)).mono (hK1.trans hK2)
          rintro _ _ _ _ ⟨rfl, b17, rfl, rfl⟩
          refine aB (i := 8) (by kernel_rfl) (aN rfl (ev_store (b := b16) (off := 0) rfl rfl .agg rfl qd16.1 (lay_all (zs := zLg) qd16.1) qd16.2 (.there .here)) rfl (fun _ _ _ _ hq w s => by obtain ⟨rfl, _, rfl⟩ := hq; exact (Sat.left (A := [_, _]) (s.pm 8 [5, 7, 0, 1, 2, 3, 4, 6] rfl rfl)).mono (hK1.trans hK2)) ?_)
          rintro _ _ _ _ ⟨rfl, _, rfl⟩
          refine aB (i := 9) (by kernel_rfl) (aN rfl (ev_store (b := b17) (off := 0) rfl rfl .agg rfl qd17.1 (lay_all (zs := zLg) qd17.1) qd17.2 (.here)) rfl (fun _ _ _ _ hq w s => by obtain ⟨rfl, _, rfl⟩ := hq; exact (Sat.left (A := [_, _]) (s.pm 8 [5, 7, 0, 1, 2, 3, 4, 6] rfl rfl)).mono (hK1.trans hK2)) ?_)
          rintro _ _ _ _ ⟨rfl, _, rfl⟩
          refine aD (by kernel_rfl) ?_
          exact J_joined (K2, d16, d17, b16, b17) ⟨(hK1.trans hK2), hvd16.mono hK2, hvd17⟩ ⟨⟨rfl, rfl, rfl, rfl, rfl, rfl, rfl, rfl, rfl, rfl, rfl, rfl, trivial⟩, fun w s => s.pm 8 [0, 1, 2, 3, 4, 5, 6, 7] rfl rfl⟩
        · refine aE rfl (ev_alloc (cs := zLg) rfl) rfl rfl ?_ ?_
          · rintro _ _ _ _ ⟨rfl, b17, rfl, rfl⟩ w s
            exact (Sat.left (A := [_, _]) (s.pm 7 [4, 6, 0, 1, 2, 3, 5] rfl rfl)).mono (hK1.trans hK2)
          rintro _ _ _ _ ⟨rfl, b17, rfl, rfl⟩
          refine aB (i := 6) (by kernel_rfl) ?_
          refine aE rfl (ev_alloc (cs := zLg) rfl) rfl rfl ?_ ?_
          · rintro _ _ _ _ ⟨rfl, b16, rfl, rfl⟩ w s
            exact (Sat.left (A := [_, _]) (s.pm 8 [5, 7, 0, 1, 2, 3, 4, 6] rfl rfl)).mono (hK1.trans hK2)
          rintro _ _ _ _ ⟨rfl, b16, rfl, rfl⟩
          refine aB (i := 8) (by kernel_rfl) (aN rfl (ev_store (b := b16) (off := 0) rfl rfl .agg rfl qd16.1 (lay_all (zs := zLg) qd16.1) qd16.2 (.here)) rfl (fun _ _ _ _ hq w s => by obtain ⟨rfl, _, rfl⟩ := hq; exact (Sat.left (A := [_, _]) (s.pm 8 [5, 7, 0, 1, 2, 3, 4, 6] rfl rfl)).mono (hK1.trans hK2)) ?_)
          rintro _ _ _ _ ⟨rfl, _, rfl⟩
          refine aB (i := 9) (by kernel_rfl) (aN rfl (ev_store (b := b17) (off := 0) rfl rfl .agg rfl qd17.1 (lay_all (zs := zLg) qd17.1) qd17.2 (.there .here)) rfl (fun _ _ _ _ hq w s => by obtain ⟨rfl, _, rfl⟩ := hq; exact (Sat.left (A := [_, _]) (s.pm 8 [5, 7, 0, 1, 2, 3, 4, 6] rfl rfl)).mono (hK1.trans hK2)) ?_)
          rintro _ _ _ _ ⟨rfl, _, rfl⟩
          refine aD (by kernel_rfl) ?_
          exact J_joined (K2, d16, d17, b16, b17) ⟨(hK1.trans hK2), hvd16.mono hK2, hvd17⟩ ⟨⟨rfl, rfl, rfl, rfl, rfl, rfl, rfl, rfl, rfl, rfl, rfl, rfl, trivial⟩, fun w s => s.pm 8 [1, 0, 2, 3, 4, 5, 6, 7] rfl rfl⟩
      · refine aE rfl (ev_alloc (cs := zLg) rfl) rfl rfl ?_ ?_
        · rintro _ _ _ _ ⟨rfl, b16, rfl, rfl⟩ w s
          exact (Sat.left (A := [_, _]) (s.pm 7 [4, 6, 0, 1, 2, 3, 5] rfl rfl)).mono (hK1)
        rintro _ _ _ _ ⟨rfl, b16, rfl, rfl⟩
        refine aB2 (i := 5) (i' := 7) (by kernel_rfl) ?_ ?_
        · refine aC (Hc := []) (Hr := blk b16 27 zLg :: blk b14 27 d14 :: blk b12 27 d12 :: blk b11 27 cw :: blk b7 39 (ouC o) :: blk b6 37 (ltC x) :: blk b5 27 [.int .i64 s, .int .i64 tt, .slice al L.length cl, .slice ao O.length co] :: X) rfl (Told_spec (s, tt, L, O, ()) [.int .i64 s, .int .i64 tt, .slice al L.length cl, .slice ao O.length co] o K1 (hv8.mono (hK1)) (by dsimp only; omega) (by dsimp only; omega)) Try.call16 rfl rfl rfl (fun _ s => s) (fun _ _ _ hF hq w s => by obtain ⟨rfl, _⟩ := hq; exact (Sat.left (A := [_, _]) (s.pm 7 [4, 6, 0, 1, 2, 3, 5] rfl rfl)).mono (hK1.trans hF)) ?_
          rintro _ K2 _ hK2 ⟨rfl, d17, rfl, hvd17⟩
          have qd17 := hvd17.len
          refine aB (i := 7) (by kernel_rfl) ?_
          refine aE rfl (ev_alloc (cs := zLg) rfl) rfl rfl ?_ ?_
          · rintro _ _ _ _ ⟨rfl, b17, rfl, rfl⟩ w s
            exact (Sat.left (A := [_, _]) (s.pm 8 [5, 7, 0, 1, 2, 3, 4, 6] rfl rfl)).mono (hK1.trans hK2)
          rintro _ _ _ _ ⟨rfl, b17, rfl, rfl⟩
          refine aB (i := 8) (by kernel_rfl) (aN rfl (ev_store (b := b16) (off := 0) rfl rfl .agg rfl qd16.1 (lay_all (zs := zLg) qd16.1) qd16.2 (.there .here)) rfl (fun _ _ _ _ hq w s => by obtain ⟨rfl, _, rfl⟩ := hq; exact (Sat.left (A := [_, _]) (s.pm 8 [5, 7, 0, 1, 2, 3, 4, 6] rfl rfl)).mono (hK1.trans hK2)) ?_)
          rintro _ _ _ _ ⟨rfl, _, rfl⟩
          refine aB (i := 9) (by kernel_rfl) (aN rfl (ev_store (b := b17) (off := 0) rfl rfl .agg rfl qd17.1 (lay_all (zs := zLg) qd17.1) qd17.2 (.here)) rfl (fun _ _ _ _ hq w s => by obtain ⟨rfl, _, rfl⟩ := hq; exact (Sat.left (A := [_, _]) (s.pm 8 [5, 7, 0, 1, 2, 3, 4, 6] rfl rfl)).mono (hK1.trans hK2)) ?_)
          rintro _ _ _ _ ⟨rfl, _, rfl⟩
          refine aD (by kernel_rfl) ?_
          exact J_joined (K2, d16, d17, b16, b17) ⟨(hK1.trans hK2), hvd16.mono hK2, hvd17⟩ ⟨⟨rfl, rfl, rfl, rfl, rfl, rfl, rfl, rfl, rfl, rfl, rfl, rfl, trivial⟩, fun w s => s.pm 8 [0, 1, 2, 3, 4, 5, 6, 7] rfl rfl⟩
        · refine aE rfl (ev_alloc (cs := zLg) rfl) rfl rfl ?_ ?_
          · rintro _ _ _ _ ⟨rfl, b17, rfl, rfl⟩ w s
            exact (Sat.left (A := [_, _]) (s.pm 8 [5, 7, 0, 1, 2, 3, 4, 6] rfl rfl)).mono (hK1)
          rintro _ _ _ _ ⟨rfl, b17, rfl, rfl⟩
          refine aB (i := 5) (by kernel_rfl) ?_
          refine aC (Hc := []) (Hr := blk b17 27 zLg :: blk b16 27 zLg :: blk b14 27 d14 :: blk b12 27 d12 :: blk b11 27 cw :: blk b7 39 (ouC o) :: blk b6 37 (ltC x) :: blk b5 27 [.int .i64 s, .int .i64 tt, .slice al L.length cl, .slice ao O.length co] :: X) rfl (Told_spec (s, tt, L, O, ()) [.int .i64 s, .int .i64 tt, .slice al L.length cl, .slice ao O.length co] o K1 (hv8.mono (hK1)) (by dsimp only; omega) (by dsimp only; omega)) Try.call16 rfl rfl rfl (fun _ s => s) (fun _ _ _ hF hq w s => by obtain ⟨rfl, _⟩ := hq; exact (Sat.left (A := [_, _]) (s.pm 8 [5, 7, 0, 1, 2, 3, 4, 6] rfl rfl)).mono (hK1.trans hF)) ?_
          rintro _ K2 _ hK2 ⟨rfl, d17, rfl, hvd17⟩
          have qd17 := hvd17.len
          refine aB (i := 8) (by kernel_rfl) (aN rfl (ev_store (b := b16) (off := 0) rfl rfl .agg rfl qd16.1 (lay_all (zs := zLg) qd16.1) qd16.2 (.there .here)) rfl (fun _ _ _ _ hq w s => by obtain ⟨rfl, _, rfl⟩ := hq; exact (Sat.left (A := [_, _]) (s.pm 8 [5, 7, 0, 1, 2, 3, 4, 6] rfl rfl)).mono (hK1.trans hK2)) ?_)
          rintro _ _ _ _ ⟨rfl, _, rfl⟩
          refine aB (i := 9) (by kernel_rfl) (aN rfl (ev_store (b := b17) (off := 0) rfl rfl .agg rfl qd17.1 (lay_all (zs := zLg) qd17.1) qd17.2 (.here)) rfl (fun _ _ _ _ hq w s => by obtain ⟨rfl, _, rfl⟩ := hq; exact (Sat.left (A := [_, _]) (s.pm 8 [5, 7, 0, 1, 2, 3, 4, 6] rfl rfl)).mono (hK1.trans hK2)) ?_)
          rintro _ _ _ _ ⟨rfl, _, rfl⟩
          refine aD (by kernel_rfl) ?_
          exact J_joined (K2, d16, d17, b16, b17) ⟨(hK1.trans hK2), hvd16.mono hK2, hvd17⟩ ⟨⟨rfl, rfl, rfl, rfl, rfl, rfl, rfl, rfl, rfl, rfl, rfl, rfl, trivial⟩, fun w s => s.pm 8 [0, 1, 2, 3, 4, 5, 6, 7] rfl rfl⟩
      · refine aE rfl (ev_alloc (cs := zLg) rfl) rfl rfl ?_ ?_
        · rintro _ _ _ _ ⟨rfl, b17, rfl, rfl⟩ w s
          exact (Sat.left (A := [_, _]) (s.pm 7 [4, 6, 0, 1, 2, 3, 5] rfl rfl)).mono (hK1)
        rintro _ _ _ _ ⟨rfl, b17, rfl, rfl⟩
        refine aB2 (i := 5) (i' := 6) (by kernel_rfl) ?_ ?_
        · refine aC (Hc := []) (Hr := blk b17 27 zLg :: blk b14 27 d14 :: blk b12 27 d12 :: blk b11 27 cw :: blk b7 39 (ouC o) :: blk b6 37 (ltC x) :: blk b5 27 [.int .i64 s, .int .i64 tt, .slice al L.length cl, .slice ao O.length co] :: X) rfl (Told_spec (s, tt, L, O, ()) [.int .i64 s, .int .i64 tt, .slice al L.length cl, .slice ao O.length co] o K1 (hv8.mono (hK1)) (by dsimp only; omega) (by dsimp only; omega)) Try.call16 rfl rfl rfl (fun _ s => s) (fun _ _ _ hF hq w s => by obtain ⟨rfl, _⟩ := hq; exact (Sat.left (A := [_, _]) (s.pm 7 [4, 6, 0, 1, 2, 3, 5] rfl rfl)).mono (hK1.trans hF)) ?_
          rintro _ K2 _ hK2 ⟨rfl, d17, rfl, hvd17⟩
          have qd17 := hvd17.len
          refine aB (i := 6) (by kernel_rfl) ?_
          refine aE rfl (ev_alloc (cs := zLg) rfl) rfl rfl ?_ ?_
          · rintro _ _ _ _ ⟨rfl, b16, rfl, rfl⟩ w s
            exact (Sat.left (A := [_, _]) (s.pm 8 [5, 7, 0, 1, 2, 3, 4, 6] rfl rfl)).mono (hK1.trans hK2)
          rintro _ _ _ _ ⟨rfl, b16, rfl, rfl⟩
          refine aB (i := 8) (by kernel_rfl) (aN rfl (ev_store (b := b16) (off := 0) rfl rfl .agg rfl qd16.1 (lay_all (zs := zLg) qd16.1) qd16.2 (.here)) rfl (fun _ _ _ _ hq w s => by obtain ⟨rfl, _, rfl⟩ := hq; exact (Sat.left (A := [_, _]) (s.pm 8 [5, 7, 0, 1, 2, 3, 4, 6] rfl rfl)).mono (hK1.trans hK2)) ?_)
          rintro _ _ _ _ ⟨rfl, _, rfl⟩
          refine aB (i := 9) (by kernel_rfl) (aN rfl (ev_store (b := b17) (off := 0) rfl rfl .agg rfl qd17.1 (lay_all (zs := zLg) qd17.1) qd17.2 (.there .here)) rfl (fun _ _ _ _ hq w s => by obtain ⟨rfl, _, rfl⟩ := hq; exact (Sat.left (A := [_, _]) (s.pm 8 [5, 7, 0, 1, 2, 3, 4, 6] rfl rfl)).mono (hK1.trans hK2)) ?_)
          rintro _ _ _ _ ⟨rfl, _, rfl⟩
          refine aD (by kernel_rfl) ?_
          exact J_joined (K2, d16, d17, b16, b17) ⟨(hK1.trans hK2), hvd16.mono hK2, hvd17⟩ ⟨⟨rfl, rfl, rfl, rfl, rfl, rfl, rfl, rfl, rfl, rfl, rfl, rfl, trivial⟩, fun w s => s.pm 8 [1, 0, 2, 3, 4, 5, 6, 7] rfl rfl⟩
        · refine aE rfl (ev_alloc (cs := zLg) rfl) rfl rfl ?_ ?_
          · rintro _ _ _ _ ⟨rfl, b16, rfl, rfl⟩ w s
            exact (Sat.left (A := [_, _]) (s.pm 8 [5, 7, 0, 1, 2, 3, 4, 6] rfl rfl)).mono (hK1)
          rintro _ _ _ _ ⟨rfl, b16, rfl, rfl⟩
          refine aB (i := 5) (by kernel_rfl) ?_
          refine aC (Hc := []) (Hr := blk b16 27 zLg :: blk b17 27 zLg :: blk b14 27 d14 :: blk b12 27 d12 :: blk b11 27 cw :: blk b7 39 (ouC o) :: blk b6 37 (ltC x) :: blk b5 27 [.int .i64 s, .int .i64 tt, .slice al L.length cl, .slice ao O.length co] :: X) rfl (Told_spec (s, tt, L, O, ()) [.int .i64 s, .int .i64 tt, .slice al L.length cl, .slice ao O.length co] o K1 (hv8.mono (hK1)) (by dsimp only; omega) (by dsimp only; omega)) Try.call16 rfl rfl rfl (fun _ s => s) (fun _ _ _ hF hq w s => by obtain ⟨rfl, _⟩ := hq; exact (Sat.left (A := [_, _]) (s.pm 8 [5, 7, 0, 1, 2, 3, 4, 6] rfl rfl)).mono (hK1.trans hF)) ?_
          rintro _ K2 _ hK2 ⟨rfl, d17, rfl, hvd17⟩
          have qd17 := hvd17.len
          refine aB (i := 8) (by kernel_rfl) (aN rfl (ev_store (b := b16) (off := 0) rfl rfl .agg rfl qd16.1 (lay_all (zs := zLg) qd16.1) qd16.2 (.here)) rfl (fun _ _ _ _ hq w s => by obtain ⟨rfl, _, rfl⟩ := hq; exact (Sat.left (A := [_, _]) (s.pm 8 [5, 7, 0, 1, 2, 3, 4, 6] rfl rfl)).mono (hK1.trans hK2)) ?_)
          rintro _ _ _ _ ⟨rfl, _, rfl⟩
          refine aB (i := 9) (by kernel_rfl) (aN rfl (ev_store (b := b17) (off := 0) rfl rfl .agg rfl qd17.1 (lay_all (zs := zLg) qd17.1) qd17.2 (.there .here)) rfl (fun _ _ _ _ hq w s => by obtain ⟨rfl, _, rfl⟩ := hq; exact (Sat.left (A := [_, _]) (s.pm 8 [5, 7, 0, 1, 2, 3, 4, 6] rfl rfl)).mono (hK1.trans hK2)) ?_)
          rintro _ _ _ _ ⟨rfl, _, rfl⟩
          refine aD (by kernel_rfl) ?_
          exact J_joined (K2, d16, d17, b16, b17) ⟨(hK1.trans hK2), hvd16.mono hK2, hvd17⟩ ⟨⟨rfl, rfl, rfl, rfl, rfl, rfl, rfl, rfl, rfl, rfl, rfl, rfl, trivial⟩, fun w s => s.pm 8 [1, 0, 2, 3, 4, 5, 6, 7] rfl rfl⟩
    · refine aE rfl (ev_alloc (cs := zLg) rfl) rfl rfl ?_ ?_
      · rintro _ _ _ _ ⟨rfl, b16, rfl, rfl⟩ w s
        exact (Sat.left (A := [_, _]) (s.pm 7 [4, 6, 0, 1, 2, 3, 5] rfl rfl)).mono (PH.ler _)
      rintro _ _ _ _ ⟨rfl, b16, rfl, rfl⟩
      refine aB2 (i := 2) (i' := 7) (by kernel_rfl) ?_ ?_
      · refine aC (Hc := []) (Hr := blk b16 27 zLg :: blk b14 27 d14 :: blk b12 27 d12 :: blk b11 27 cw :: blk b7 39 (ouC o) :: blk b6 37 (ltC x) :: blk b5 27 [.int .i64 s, .int .i64 tt, .slice al L.length cl, .slice ao O.length co] :: X) rfl (told_spec (s, tt, L, O, ()) [.int .i64 s, .int .i64 tt, .slice al L.length cl, .slice ao O.length co] o H2 (hv8.mono (PH.ler _)) (by dsimp only; omega) (by dsimp only; omega)) Try.call15 rfl rfl rfl (fun _ s => s) (fun _ _ _ hF hq w s => by obtain ⟨rfl, _⟩ := hq; exact (Sat.left (A := [_, _]) (s.pm 7 [4, 6, 0, 1, 2, 3, 5] rfl rfl)).mono (hF)) ?_
        rintro _ K1 _ hK1 ⟨rfl, d16, rfl, hvd16⟩
        have qd16 := hvd16.len
        refine aB2 (i := 5) (i' := 7) (by kernel_rfl) ?_ ?_
        · refine aC (Hc := []) (Hr := blk b16 27 zLg :: blk b14 27 d14 :: blk b12 27 d12 :: blk b11 27 cw :: blk b7 39 (ouC o) :: blk b6 37 (ltC x) :: blk b5 27 [.int .i64 s, .int .i64 tt, .slice al L.length cl, .slice ao O.length co] :: X) rfl (Told_spec (s, tt, L, O, ()) [.int .i64 s, .int .i64 tt, .slice al L.length cl, .slice ao O.length co] o K1 (hv8.mono (hK1)) (by dsimp only; omega) (by dsimp only; omega)) Try.call16 rfl rfl rfl (fun _ s => s) (fun _ _ _ hF hq w s => by obtain ⟨rfl, _⟩ := hq; exact (Sat.left (A := [_, _]) (s.pm 7 [4, 6, 0, 1, 2, 3, 5] rfl rfl)).mono (hK1.trans hF)) ?_
          rintro _ K2 _ hK2 ⟨rfl, d17, rfl, hvd17⟩
          have qd17 := hvd17.len
          refine aB (i := 7) (by kernel_rfl) ?_
          refine aE rfl (ev_alloc (cs := zLg) rfl) rfl rfl ?_ ?_
          · rintro _ _ _ _ ⟨rfl, b17, rfl, rfl⟩ w s
            exact (Sat.left (A := [_, _]) (s.pm 8 [5, 7, 0, 1, 2, 3, 4, 6] rfl rfl)).mono (hK1.trans hK2)
          rintro _ _ _ _ ⟨rfl, b17, rfl, rfl⟩
          refine aB (i := 8) (by kernel_rfl) (aN rfl (ev_store (b := b16) (off := 0) rfl rfl .agg rfl qd16.1 (lay_all (zs := zLg) qd16.1) qd16.2 (.there .here)) rfl (fun _ _ _ _ hq w s => by obtain ⟨rfl, _, rfl⟩ := hq; exact (Sat.left (A := [_, _]) (s.pm 8 [5, 7, 0, 1, 2, 3, 4, 6] rfl rfl)).mono (hK1.trans hK2)) ?_)
          rintro _ _ _ _ ⟨rfl, _, rfl⟩
          refine aB (i := 9) (by kernel_rfl) (aN rfl (ev_store (b := b17) (off := 0) rfl rfl .agg rfl qd17.1 (lay_all (zs := zLg) qd17.1) qd17.2 (.here)) rfl (fun _ _ _ _ hq w s => by obtain ⟨rfl, _, rfl⟩ := hq; exact (Sat.left (A := [_, _]) (s.pm 8 [5, 7, 0, 1, 2, 3, 4, 6] rfl rfl)).mono (hK1.trans hK2)) ?_)
          rintro _ _ _ _ ⟨rfl, _, rfl⟩
          refine aD (by kernel_rfl) ?_
          exact J_joined (K2, d16, d17, b16, b17) ⟨(hK1.trans hK2), hvd16.mono hK2, hvd17⟩ ⟨⟨rfl, rfl, rfl, rfl, rfl, rfl, rfl, rfl, rfl, rfl, rfl, rfl, trivial⟩, fun w s => s.pm 8 [0, 1, 2, 3, 4, 5, 6, 7] rfl rfl⟩
        · refine aE rfl (ev_alloc (cs := zLg) rfl) rfl rfl ?_ ?_
          · rintro _ _ _ _ ⟨rfl, b17, rfl, rfl⟩ w s
            exact (Sat.left (A := [_, _]) (s.pm 8 [5, 7, 0, 1, 2, 3, 4, 6] rfl rfl)).mono (hK1)
          rintro _ _ _ _ ⟨rfl, b17, rfl, rfl⟩
          refine aB (i := 5) (by kernel_rfl) ?_
          refine aC (Hc := []) (Hr := blk b17 27 zLg :: blk b16 27 zLg :: blk b14 27 d14 :: blk b12 27 d12 :: blk b11 27 cw :: blk b7 39 (ouC o) :: blk b6 37 (ltC x) :: blk b5 27 [.int .i64 s, .int .i64 tt, .slice al L.length cl, .slice ao O.length co] :: X) rfl (Told_spec (s, tt, L, O, ()) [.int .i64 s, .int .i64 tt, .slice al L.length cl, .slice ao O.length co] o K1 (hv8.mono (hK1)) (by dsimp only; omega) (by dsimp only; omega)) Try.call16 rfl rfl rfl (fun _ s => s) (fun _ _ _ hF hq w s => by obtain ⟨rfl, _⟩ := hq; exact (Sat.left (A := [_, _]) (s.pm 8 [5, 7, 0, 1, 2, 3, 4, 6] rfl rfl)).mono (hK1.trans hF)) ?_
          rintro _ K2 _ hK2 ⟨rfl, d17, rfl, hvd17⟩
          have qd17 := hvd17.len
          refine aB (i := 8) (by kernel_rfl) (aN rfl (ev_store (b := b16) (off := 0) rfl rfl .agg rfl qd16.1 (lay_all (zs := zLg) qd16.1) qd16.2 (.there .here)) rfl (fun _ _ _ _ hq w s => by obtain ⟨rfl, _, rfl⟩ := hq; exact (Sat.left (A := [_, _]) (s.pm 8 [5, 7, 0, 1, 2, 3, 4, 6] rfl rfl)).mono (hK1.trans hK2)) ?_)
          rintro _ _ _ _ ⟨rfl, _, rfl⟩
          refine aB (i := 9) (by kernel_rfl) (aN rfl (ev_store (b := b17) (off := 0) rfl rfl .agg rfl qd17.1 (lay_all (zs := zLg) qd17.1) qd17.2 (.here)) rfl (fun _ _ _ _ hq w s => by obtain ⟨rfl, _, rfl⟩ := hq; exact (Sat.left (A := [_, _]) (s.pm 8 [5, 7, 0, 1, 2, 3, 4, 6] rfl rfl)).mono (hK1.trans hK2)) ?_)
          rintro _ _ _ _ ⟨rfl, _, rfl⟩
          refine aD (by kernel_rfl) ?_
          exact J_joined (K2, d16, d17, b16, b17) ⟨(hK1.trans hK2), hvd16.mono hK2, hvd17⟩ ⟨⟨rfl, rfl, rfl, rfl, rfl, rfl, rfl, rfl, rfl, rfl, rfl, rfl, trivial⟩, fun w s => s.pm 8 [0, 1, 2, 3, 4, 5, 6, 7] rfl rfl⟩
      · refine aE rfl (ev_alloc (cs := zLg) rfl) rfl rfl ?_ ?_
        · rintro _ _ _ _ ⟨rfl, b17, rfl, rfl⟩ w s
          exact (Sat.left (A := [_, _]) (s.pm 8 [5, 7, 0, 1, 2, 3, 4, 6] rfl rfl)).mono (PH.ler _)
        rintro _ _ _ _ ⟨rfl, b17, rfl, rfl⟩
        refine aB (i := 2) (by kernel_rfl) ?_
        refine aC (Hc := []) (Hr := blk b17 27 zLg :: blk b16 27 zLg :: blk b14 27 d14 :: blk b12 27 d12 :: blk b11 27 cw :: blk b7 39 (ouC o) :: blk b6 37 (ltC x) :: blk b5 27 [.int .i64 s, .int .i64 tt, .slice al L.length cl, .slice ao O.length co] :: X) rfl (told_spec (s, tt, L, O, ()) [.int .i64 s, .int .i64 tt, .slice al L.length cl, .slice ao O.length co] o H2 (hv8.mono (PH.ler _)) (by dsimp only; omega) (by dsimp only; omega)) Try.call15 rfl rfl rfl (fun _ s => s) (fun _ _ _ hF hq w s => by obtain ⟨rfl, _⟩ := hq; exact (Sat.left (A := [_, _]) (s.pm 8 [5, 7, 0, 1, 2, 3, 4, 6] rfl rfl)).mono (hF)) ?_
        rintro _ K1 _ hK1 ⟨rfl, d16, rfl, hvd16⟩
        have qd16 := hvd16.len
        refine aB (i := 5) (by kernel_rfl) ?_
        refine aC (Hc := []) (Hr := blk b17 27 zLg :: blk b16 27 zLg :: blk b14 27 d14 :: blk b12 27 d12 :: blk b11 27 cw :: blk b7 39 (ouC o) :: blk b6 37 (ltC x) :: blk b5 27 [.int .i64 s, .int .i64 tt, .slice al L.length cl, .slice ao O.length co] :: X) rfl (Told_spec (s, tt, L, O, ()) [.int .i64 s, .int .i64 tt, .slice al L.length cl, .slice ao O.length co] o K1 (hv8.mono (hK1)) (by dsimp only; omega) (by dsimp only; omega)) Try.call16 rfl rfl rfl (fun _ s => s) (fun _ _ _ hF hq w s => by obtain ⟨rfl, _⟩ := hq; exact (Sat.left (A := [_, _]) (s.pm 8 [5, 7, 0, 1, 2, 3, 4, 6] rfl rfl)).mono (hK1.trans hF)) ?_
        rintro _ K2 _ hK2 ⟨rfl, d17, rfl, hvd17⟩
        have qd17 := hvd17.len
        refine aB (i := 8) (by kernel_rfl) (aN rfl (ev_store (b := b16) (off := 0) rfl rfl .agg rfl qd16.1 (lay_all (zs := zLg) qd16.1) qd16.2 (.there .here)) rfl (fun _ _ _ _ hq w s => by obtain ⟨rfl, _, rfl⟩ := hq; exact (Sat.left (A := [_, _]) (s.pm 8 [5, 7, 0, 1, 2, 3, 4, 6] rfl rfl)).mono (hK1.trans hK2)) ?_)
        rintro _ _ _ _ ⟨rfl, _, rfl⟩
        refine aB (i := 9) (by kernel_rfl) (aN rfl (ev_store (b := b17) (off := 0) rfl rfl .agg rfl qd17.1 (lay_all (zs := zLg) qd17.1) qd17.2 (.here)) rfl (fun _ _ _ _ hq w s => by obtain ⟨rfl, _, rfl⟩ := hq; exact (Sat.left (A := [_, _]) (s.pm 8 [5, 7, 0, 1, 2, 3, 4, 6] rfl rfl)).mono (hK1.trans hK2)) ?_)
        rintro _ _ _ _ ⟨rfl, _, rfl⟩
        refine aD (by kernel_rfl) ?_
        exact J_joined (K2, d16, d17, b16, b17) ⟨(hK1.trans hK2), hvd16.mono hK2, hvd17⟩ ⟨⟨rfl, rfl, rfl, rfl, rfl, rfl, rfl, rfl, rfl, rfl, rfl, rfl, trivial⟩, fun w s => s.pm 8 [0, 1, 2, 3, 4, 5, 6, 7] rfl rfl⟩
    · refine aE rfl (ev_alloc (cs := zLg) rfl) rfl rfl ?_ ?_
      · rintro _ _ _ _ ⟨rfl, b17, rfl, rfl⟩ w s
        exact (Sat.left (A := [_, _]) (s.pm 7 [4, 6, 0, 1, 2, 3, 5] rfl rfl)).mono (PH.ler _)
      rintro _ _ _ _ ⟨rfl, b17, rfl, rfl⟩
      refine aB2 (i := 2) (i' := 6) (by kernel_rfl) ?_ ?_
      · refine aC (Hc := []) (Hr := blk b17 27 zLg :: blk b14 27 d14 :: blk b12 27 d12 :: blk b11 27 cw :: blk b7 39 (ouC o) :: blk b6 37 (ltC x) :: blk b5 27 [.int .i64 s, .int .i64 tt, .slice al L.length cl, .slice ao O.length co] :: X) rfl (told_spec (s, tt, L, O, ()) [.int .i64 s, .int .i64 tt, .slice al L.length cl, .slice ao O.length co] o H2 (hv8.mono (PH.ler _)) (by dsimp only; omega) (by dsimp only; omega)) Try.call15 rfl rfl rfl (fun _ s => s) (fun _ _ _ hF hq w s => by obtain ⟨rfl, _⟩ := hq; exact (Sat.left (A := [_, _]) (s.pm 7 [4, 6, 0, 1, 2, 3, 5] rfl rfl)).mono (hF)) ?_
        rintro _ K1 _ hK1 ⟨rfl, d16, rfl, hvd16⟩
        have qd16 := hvd16.len
        refine aB2 (i := 5) (i' := 6) (by kernel_rfl) ?_ ?_
        · refine aC (Hc := []) (Hr := blk b17 27 zLg :: blk b14 27 d14 :: blk b12 27 d12 :: blk b11 27 cw :: blk b7 39 (ouC o) :: blk b6 37 (ltC x) :: blk b5 27 [.int .i64 s, .int .i64 tt, .slice al L.length cl, .slice ao O.length co] :: X) rfl (Told_spec (s, tt, L, O, ()) [.int .i64 s, .int .i64 tt, .slice al L.length cl, .slice ao O.length co] o K1 (hv8.mono (hK1)) (by dsimp only; omega) (by dsimp only; omega)) Try.call16 rfl rfl rfl (fun _ s => s) (fun _ _ _ hF hq w s => by obtain ⟨rfl, _⟩ := hq; exact (Sat.left (A := [_, _]) (s.pm 7 [4, 6, 0, 1, 2, 3, 5] rfl rfl)).mono (hK1.trans hF)) ?_
          rintro _ K2 _ hK2 ⟨rfl, d17, rfl, hvd17⟩
          have qd17 := hvd17.len
          refine aB (i := 6) (by kernel_rfl) ?_
          refine aE rfl (ev_alloc (cs := zLg) rfl) rfl rfl ?_ ?_
          · rintro _ _ _ _ ⟨rfl, b16, rfl, rfl⟩ w s
            exact (Sat.left (A := [_, _]) (s.pm 8 [5, 7, 0, 1, 2, 3, 4, 6] rfl rfl)).mono (hK1.trans hK2)
          rintro _ _ _ _ ⟨rfl, b16, rfl, rfl⟩
          refine aB (i := 8) (by kernel_rfl) (aN rfl (ev_store (b := b16) (off := 0) rfl rfl .agg rfl qd16.1 (lay_all (zs := zLg) qd16.1) qd16.2 (.here)) rfl (fun _ _ _ _ hq w s => by obtain ⟨rfl, _, rfl⟩ := hq; exact (Sat.left (A := [_, _]) (s.pm 8 [5, 7, 0, 1, 2, 3, 4, 6] rfl rfl)).mono (hK1.trans hK2)) ?_)
          rintro _ _ _ _ ⟨rfl, _, rfl⟩
          refine aB (i := 9) (by kernel_rfl) (aN rfl (ev_store (b := b17) (off := 0) rfl rfl .agg rfl qd17.1 (lay_all (zs := zLg) qd17.1) qd17.2 (.there .here)) rfl (fun _ _ _ _ hq w s => by obtain ⟨rfl, _, rfl⟩ := hq; exact (Sat.left (A := [_, _]) (s.pm 8 [5, 7, 0, 1, 2, 3, 4, 6] rfl rfl)).mono (hK1.trans hK2)) ?_)
          rintro _ _ _ _ ⟨rfl, _, rfl⟩
          refine aD (by kernel_rfl) ?_
          exact J_joined (K2, d16, d17, b16, b17) ⟨(hK1.trans hK2), hvd16.mono hK2, hvd17⟩ ⟨⟨rfl, rfl, rfl, rfl, rfl, rfl, rfl, rfl, rfl, rfl, rfl, rfl, trivial⟩, fun w s => s.pm 8 [1, 0, 2, 3, 4, 5, 6, 7] rfl rfl⟩
        · refine aE rfl (ev_alloc (cs := zLg) rfl) rfl rfl ?_ ?_
          · rintro _ _ _ _ ⟨rfl, b16, rfl, rfl⟩ w s
            exact (Sat.left (A := [_, _]) (s.pm 8 [5, 7, 0, 1, 2, 3, 4, 6] rfl rfl)).mono (hK1)
          rintro _ _ _ _ ⟨rfl, b16, rfl, rfl⟩
          refine aB (i := 5) (by kernel_rfl) ?_
          refine aC (Hc := []) (Hr := blk b16 27 zLg :: blk b17 27 zLg :: blk b14 27 d14 :: blk b12 27 d12 :: blk b11 27 cw :: blk b7 39 (ouC o) :: blk b6 37 (ltC x) :: blk b5 27 [.int .i64 s, .int .i64 tt, .slice al L.length cl, .slice ao O.length co] :: X) rfl (Told_spec (s, tt, L, O, ()) [.int .i64 s, .int .i64 tt, .slice al L.length cl, .slice ao O.length co] o K1 (hv8.mono (hK1)) (by dsimp only; omega) (by dsimp only; omega)) Try.call16 rfl rfl rfl (fun _ s => s) (fun _ _ _ hF hq w s => by obtain ⟨rfl, _⟩ := hq; exact (Sat.left (A := [_, _]) (s.pm 8 [5, 7, 0, 1, 2, 3, 4, 6] rfl rfl)).mono (hK1.trans hF)) ?_
          rintro _ K2 _ hK2 ⟨rfl, d17, rfl, hvd17⟩
          have qd17 := hvd17.len
          refine aB (i := 8) (by kernel_rfl) (aN rfl (ev_store (b := b16) (off := 0) rfl rfl .agg rfl qd16.1 (lay_all (zs := zLg) qd16.1) qd16.2 (.here)) rfl (fun _ _ _ _ hq w s => by obtain ⟨rfl, _, rfl⟩ := hq; exact (Sat.left (A := [_, _]) (s.pm 8 [5, 7, 0, 1, 2, 3, 4, 6] rfl rfl)).mono (hK1.trans hK2)) ?_)
          rintro _ _ _ _ ⟨rfl, _, rfl⟩
          refine aB (i := 9) (by kernel_rfl) (aN rfl (ev_store (b := b17) (off := 0) rfl rfl .agg rfl qd17.1 (lay_all (zs := zLg) qd17.1) qd17.2 (.there .here)) rfl (fun _ _ _ _ hq w s => by obtain ⟨rfl, _, rfl⟩ := hq; exact (Sat.left (A := [_, _]) (s.pm 8 [5, 7, 0, 1, 2, 3, 4, 6] rfl rfl)).mono (hK1.trans hK2)) ?_)
          rintro _ _ _ _ ⟨rfl, _, rfl⟩
          refine aD (by kernel_rfl) ?_
          exact J_joined (K2, d16, d17, b16, b17) ⟨(hK1.trans hK2), hvd16.mono hK2, hvd17⟩ ⟨⟨rfl, rfl, rfl, rfl, rfl, rfl, rfl, rfl, rfl, rfl, rfl, rfl, trivial⟩, fun w s => s.pm 8 [1, 0, 2, 3, 4, 5, 6, 7] rfl rfl⟩
      · refine aE rfl (ev_alloc (cs := zLg) rfl) rfl rfl ?_ ?_
        · rintro _ _ _ _ ⟨rfl, b16, rfl, rfl⟩ w s
          exact (Sat.left (A := [_, _]) (s.pm 8 [5, 7, 0, 1, 2, 3, 4, 6] rfl rfl)).mono (PH.ler _)
        rintro _ _ _ _ ⟨rfl, b16, rfl, rfl⟩
        refine aB (i := 2) (by kernel_rfl) ?_
        refine aC (Hc := []) (Hr := blk b16 27 zLg :: blk b17 27 zLg :: blk b14 27 d14 :: blk b12 27 d12 :: blk b11 27 cw :: blk b7 39 (ouC o) :: blk b6 37 (ltC x) :: blk b5 27 [.int .i64 s, .int .i64 tt, .slice al L.length cl, .slice ao O.length co] :: X) rfl (told_spec (s, tt, L, O, ()) [.int .i64 s, .int .i64 tt, .slice al L.length cl, .slice ao O.length co] o H2 (hv8.mono (PH.ler _)) (by dsimp only; omega) (by dsimp only; omega)) Try.call15 rfl rfl rfl (fun _ s => s) (fun _ _ _ hF hq w s => by obtain ⟨rfl, _⟩ := hq; exact (Sat.left (A := [_, _]) (s.pm 8 [5, 7, 0, 1, 2, 3, 4, 6] rfl rfl)).mono (hF)) ?_
        rintro _ K1 _ hK1 ⟨rfl, d16, rfl, hvd16⟩
        have qd16 := hvd16.len
        refine aB (i := 5) (by kernel_rfl) ?_
        refine aC (Hc := []) (Hr := blk b16 27 zLg :: blk b17 27 zLg :: blk b14 27 d14 :: blk b12 27 d12 :: blk b11 27 cw :: blk b7 39 (ouC o) :: blk b6 37 (ltC x) :: blk b5 27 [.int .i64 s, .int .i64 tt, .slice al L.length cl, .slice ao O.length co] :: X) rfl (Told_spec (s, tt, L, O, ()) [.int .i64 s, .int .i64 tt, .slice al L.length cl, .slice ao O.length co] o K1 (hv8.mono (hK1)) (by dsimp only; omega) (by dsimp only; omega)) Try.call16 rfl rfl rfl (fun _ s => s) (fun _ _ _ hF hq w s => by obtain ⟨rfl, _⟩ := hq; exact (Sat.left (A := [_, _]) (s.pm 8 [5, 7, 0, 1, 2, 3, 4, 6] rfl rfl)).mono (hK1.trans hF)) ?_
        rintro _ K2 _ hK2 ⟨rfl, d17, rfl, hvd17⟩
        have qd17 := hvd17.len
        refine aB (i := 8) (by kernel_rfl) (aN rfl (ev_store (b := b16) (off := 0) rfl rfl .agg rfl qd16.1 (lay_all (zs := zLg) qd16.1) qd16.2 (.here)) rfl (fun _ _ _ _ hq w s => by obtain ⟨rfl, _, rfl⟩ := hq; exact (Sat.left (A := [_, _]) (s.pm 8 [5, 7, 0, 1, 2, 3, 4, 6] rfl rfl)).mono (hK1.trans hK2)) ?_)
        rintro _ _ _ _ ⟨rfl, _, rfl⟩
        refine aB (i := 9) (by kernel_rfl) (aN rfl (ev_store (b := b17) (off := 0) rfl rfl .agg rfl qd17.1 (lay_all (zs := zLg) qd17.1) qd17.2 (.there .here)) rfl (fun _ _ _ _ hq w s => by obtain ⟨rfl, _, rfl⟩ := hq; exact (Sat.left (A := [_, _]) (s.pm 8 [5, 7, 0, 1, 2, 3, 4, 6] rfl rfl)).mono (hK1.trans hK2)) ?_)
        rintro _ _ _ _ ⟨rfl, _, rfl⟩
        refine aD (by kernel_rfl) ?_
        exact J_joined (K2, d16, d17, b16, b17) ⟨(hK1.trans hK2), hvd16.mono hK2, hvd17⟩ ⟨⟨rfl, rfl, rfl, rfl, rfl, rfl, rfl, rfl, rfl, rfl, rfl, rfl, trivial⟩, fun w s => s.pm 8 [1, 0, 2, 3, 4, 5, 6, 7] rfl rfl⟩
  rintro ⟨K, d16, d17, b16, b17⟩ ⟨hK, hv16, hv17⟩
  dsimp only at hK hv16 hv17 ⊢
  have q16 := hv16.len
  have q17 := hv17.len
  repeat (first|refine zJ rfl rfl ?_|refine jr rfl ?_|refine jn ?_|refine zM rfl rfl ?_|(refine zC rfl rfl ?_ rfl ?_;omega)|(refine zD rfl rfl ?_ rfl ?_;omega)|(refine zP rfl ?_ rfl ?_;omega)|refine zG rfl rfl rfl rfl ?_|(refine jdq rfl rfl ?_ ?_ ?_;kernel_rfl;kernel_rfl)|refine zB rfl rfl rfl (by repeat constructor) rfl ?_)
  refine oS (ev_load_agg (cs := [.int .i64 s, .int .i64 tt, .slice al L.length cl, .slice ao O.length co]) rfl rfl (rdb_all (.there (.there (.there (.there (.there (.there (.there .here)))))))) rfl) rfl ?_
  repeat (first|refine zJ rfl rfl ?_|refine jr rfl ?_|refine jn ?_|refine zM rfl rfl ?_|(refine zC rfl rfl ?_ rfl ?_;omega)|(refine zD rfl rfl ?_ rfl ?_;omega)|(refine zP rfl ?_ rfl ?_;omega)|refine zG rfl rfl rfl rfl ?_|(refine jdq rfl rfl ?_ ?_ ?_;kernel_rfl;kernel_rfl)|refine zB rfl rfl rfl (by repeat constructor) rfl ?_)
  refine oC (Hc := []) (Hr := blk b17 27 d17 :: blk b16 27 d16 :: blk b14 27 d14 :: blk b12 27 d12 :: blk b11 27 cw :: blk b7 39 (ouC o) :: blk b6 37 (ltC x) :: blk b5 27 [.int .i64 s, .int .i64 tt, .slice al L.length cl, .slice ao O.length co] :: X) (lt_find_spec (s, tt, L, O, ()) [.int .i64 s, .int .i64 tt, .slice al L.length cl, .slice ao O.length co] name K (hv1.mono (hH1.trans (hH2.trans (hK)))) (by dsimp only; omega)) Try.call17 rfl rfl (fun _ s => s) ?_
  rintro _ M18 _ hM18 ⟨rfl, rfl⟩
  dsimp only
  repeat (first|refine zJ rfl rfl ?_|refine jr rfl ?_|refine jn ?_|refine zM rfl rfl ?_|(refine zC rfl rfl ?_ rfl ?_;omega)|(refine zD rfl rfl ?_ rfl ?_;omega)|(refine zP rfl ?_ rfl ?_;omega)|refine zG rfl rfl rfl rfl ?_|(refine jdq rfl rfl ?_ ?_ ?_;kernel_rfl;kernel_rfl)|refine zB rfl rfl rfl (by repeat constructor) rfl ?_)
  refine oE (ev_alloc (cs := zLt) rfl) rfl ?_
  rintro _ _ _ _ ⟨rfl, b18, rfl, rfl⟩
  refine oN (ev_store (b := b18) (off := 0) rfl rfl .agg rfl rfl (lay_all (zs := zLt) rfl) (lt_ones _) .here) rfl ?_
  rintro _ _ _ _ ⟨rfl, _, rfl⟩
  repeat (first|refine zJ rfl rfl ?_|refine jr rfl ?_|refine jn ?_|refine zM rfl rfl ?_|(refine zC rfl rfl ?_ rfl ?_;omega)|(refine zD rfl rfl ?_ rfl ?_;omega)|(refine zP rfl ?_ rfl ?_;omega)|refine zG rfl rfl rfl rfl ?_|(refine jdq rfl rfl ?_ ?_ ?_;kernel_rfl;kernel_rfl)|refine zB rfl rfl rfl (by repeat constructor) rfl ?_)
  refine oS (ev_load_agg (cs := [.int .i64 s, .int .i64 tt, .slice al L.length cl, .slice ao O.length co]) rfl rfl (rdb_all (.there (.there (.there (.there (.there (.there (.there (.there .here))))))))) rfl) rfl ?_
  repeat (first|refine zJ rfl rfl ?_|refine jr rfl ?_|refine jn ?_|refine zM rfl rfl ?_|(refine zC rfl rfl ?_ rfl ?_;omega)|(refine zD rfl rfl ?_ rfl ?_;omega)|(refine zP rfl ?_ rfl ?_;omega)|refine zG rfl rfl rfl rfl ?_|(refine jdq rfl rfl ?_ ?_ ?_;kernel_rfl;kernel_rfl)|refine zB rfl rfl rfl (by repeat constructor) rfl ?_)
  have sfd := lt_rfind_spec (s, tt, L, O, ()) [.int .i64 s, .int .i64 tt, .slice al L.length cl, .slice ao O.length co] name M18 (hv1.mono (hH1.trans (hH2.trans (hK.trans (hM18))))) (by dsimp only; omega)
  refine oP (sfd) Try.call18 rfl rfl ?_
  clear sfd
  dsimp only
  repeat (first|refine zJ rfl rfl ?_|refine jr rfl ?_|refine jn ?_|refine zM rfl rfl ?_|(refine zC rfl rfl ?_ rfl ?_;omega)|(refine zD rfl rfl ?_ rfl ?_;omega)|(refine zP rfl ?_ rfl ?_;omega)|refine zG rfl rfl rfl rfl ?_|(refine jdq rfl rfl ?_ ?_ ?_;kernel_rfl;kernel_rfl)|refine zB rfl rfl rfl (by repeat constructor) rfl ?_)
  refine oE (ev_alloc (cs := zLt) rfl) rfl ?_
  rintro _ _ _ _ ⟨rfl, b20, rfl, rfl⟩
  refine oN (ev_store (b := b20) (off := 0) rfl rfl .agg rfl rfl (lay_all (zs := zLt) rfl) (lt_ones _) .here) rfl ?_
  rintro _ _ _ _ ⟨rfl, _, rfl⟩
  repeat (first|refine zJ rfl rfl ?_|refine jr rfl ?_|refine jn ?_|refine zM rfl rfl ?_|(refine zC rfl rfl ?_ rfl ?_;omega)|(refine zD rfl rfl ?_ rfl ?_;omega)|(refine zP rfl ?_ rfl ?_;omega)|refine zG rfl rfl rfl rfl ?_|(refine jdq rfl rfl ?_ ?_ ?_;kernel_rfl;kernel_rfl)|refine zB rfl rfl rfl (by repeat constructor) rfl ?_)
  refine oS (ev_load_agg (cs := [.int .i64 s, .int .i64 tt, .slice al L.length cl, .slice ao O.length co]) rfl rfl (rdb_all (.there (.there (.there (.there (.there (.there (.there (.there (.there .here)))))))))) rfl) rfl ?_
  repeat (first|refine zJ rfl rfl ?_|refine jr rfl ?_|refine jn ?_|refine zM rfl rfl ?_|(refine zC rfl rfl ?_ rfl ?_;omega)|(refine zD rfl rfl ?_ rfl ?_;omega)|(refine zP rfl ?_ rfl ?_;omega)|refine zG rfl rfl rfl rfl ?_|(refine jdq rfl rfl ?_ ?_ ?_;kernel_rfl;kernel_rfl)|refine zB rfl rfl rfl (by repeat constructor) rfl ?_)
  refine oC (Hc := []) (Hr := blk b20 37 (ltC (findP nLt (ltEq name) L).1) :: blk b18 37 (ltC (findP nLt (ltEq name) L).1) :: blk b17 27 d17 :: blk b16 27 d16 :: blk b14 27 d14 :: blk b12 27 d12 :: blk b11 27 cw :: blk b7 39 (ouC o) :: blk b6 37 (ltC x) :: blk b5 27 [.int .i64 s, .int .i64 tt, .slice al L.length cl, .slice ao O.length co] :: X) (ou_find_spec (s, tt, L, O, ()) [.int .i64 s, .int .i64 tt, .slice al L.length cl, .slice ao O.length co] client M18 (hv1.mono (hH1.trans (hH2.trans (hK.trans (hM18))))) (by dsimp only; omega)) Try.call19 rfl rfl (fun _ s => s) ?_
  rintro _ M22 _ hM22 ⟨rfl, rfl⟩
  dsimp only
  repeat (first|refine zJ rfl rfl ?_|refine jr rfl ?_|refine jn ?_|refine zM rfl rfl ?_|(refine zC rfl rfl ?_ rfl ?_;omega)|(refine zD rfl rfl ?_ rfl ?_;omega)|(refine zP rfl ?_ rfl ?_;omega)|refine zG rfl rfl rfl rfl ?_|(refine jdq rfl rfl ?_ ?_ ?_;kernel_rfl;kernel_rfl)|refine zB rfl rfl rfl (by repeat constructor) rfl ?_)
  refine oE (ev_alloc (cs := zOu) rfl) rfl ?_
  rintro _ _ _ _ ⟨rfl, b22, rfl, rfl⟩
  refine oN (ev_store (b := b22) (off := 0) rfl rfl .agg rfl rfl (lay_all (zs := zOu) rfl) (ou_ones _) .here) rfl ?_
  rintro _ _ _ _ ⟨rfl, _, rfl⟩
  repeat (first|refine zJ rfl rfl ?_|refine jr rfl ?_|refine jn ?_|refine zM rfl rfl ?_|(refine zC rfl rfl ?_ rfl ?_;omega)|(refine zD rfl rfl ?_ rfl ?_;omega)|(refine zP rfl ?_ rfl ?_;omega)|refine zG rfl rfl rfl rfl ?_|(refine jdq rfl rfl ?_ ?_ ?_;kernel_rfl;kernel_rfl)|refine zB rfl rfl rfl (by repeat constructor) rfl ?_)
  refine oS (ev_load_agg (cs := [.int .i64 s, .int .i64 tt, .slice al L.length cl, .slice ao O.length co]) rfl rfl (rdb_all (.there (.there (.there (.there (.there (.there (.there (.there (.there (.there .here))))))))))) rfl) rfl ?_
  repeat (first|refine zJ rfl rfl ?_|refine jr rfl ?_|refine jn ?_|refine zM rfl rfl ?_|(refine zC rfl rfl ?_ rfl ?_;omega)|(refine zD rfl rfl ?_ rfl ?_;omega)|(refine zP rfl ?_ rfl ?_;omega)|refine zG rfl rfl rfl rfl ?_|(refine jdq rfl rfl ?_ ?_ ?_;kernel_rfl;kernel_rfl)|refine zB rfl rfl rfl (by repeat constructor) rfl ?_)
  have sfd := ou_rfind_spec (s, tt, L, O, ()) [.int .i64 s, .int .i64 tt, .slice al L.length cl, .slice ao O.length co] client M22 (hv1.mono (hH1.trans (hH2.trans (hK.trans (hM18.trans (hM22)))))) (by dsimp only; omega)
  refine oP (sfd) Try.call20 rfl rfl ?_
  clear sfd
  dsimp only
  repeat (first|refine zJ rfl rfl ?_|refine jr rfl ?_|refine jn ?_|refine zM rfl rfl ?_|(refine zC rfl rfl ?_ rfl ?_;omega)|(refine zD rfl rfl ?_ rfl ?_;omega)|(refine zP rfl ?_ rfl ?_;omega)|refine zG rfl rfl rfl rfl ?_|(refine jdq rfl rfl ?_ ?_ ?_;kernel_rfl;kernel_rfl)|refine zB rfl rfl rfl (by repeat constructor) rfl ?_)
  refine oE (ev_alloc (cs := zOu) rfl) rfl ?_
  rintro _ _ _ _ ⟨rfl, b24, rfl, rfl⟩
  refine oN (ev_store (b := b24) (off := 0) rfl rfl .agg rfl rfl (lay_all (zs := zOu) rfl) (ou_ones _) .here) rfl ?_
  rintro _ _ _ _ ⟨rfl, _, rfl⟩
  generalize hfl : findP nLt (ltEq name) L = fl at *
  generalize hfo : findP nOu (ouEq client) O = fo at *
  have w1 := (hd12.mono (hH2.trans (hK.trans (hM18.trans (hM22)))) : LgV M22 d12 (withP (s, tt, L, O, ()) x).1)
  have w2 := (hd14.mono (hK.trans (hM18.trans (hM22))) : LgV M22 d14 (withP (s, tt, L, O, ()) x).1)
  have w3 := hv16.mono (hM18.trans (hM22))
  have w4 := hv17.mono (hM18.trans (hM22))
  have w5 := hv1.mono (hH1.trans (hH2.trans (hK.trans (hM18.trans (hM22)))))
  have w6 := hwas.mono (hH1.trans (hH2.trans (hK.trans (hM18.trans (hM22)))))
  have hle9 := hle.trans (hH1.trans (hH2.trans (hK.trans (hM18.trans (hM22)))))
  have m1 := withP_len (s, tt, L, O, ()) x
  dsimp only at m1
  have m2 := putP_len (ouEq o.1) (ouGt o.1) o O
  have s1 := Lsame_spec _ _ d12 d14 M22 w1 w2 (by unfold maxLen; omega) (by unfold maxLen; omega) (by unfold maxLen; omega) (by unfold maxLen; omega)
  have s2 := Lsame_spec _ _ d16 d17 M22 w3 w4 (by unfold maxLen toldP; dsimp only; omega) (by unfold maxLen toldP; dsimp only; omega) (by unfold maxLen toldP; dsimp only; omega) (by unfold maxLen toldP; dsimp only; omega)
  have s3 := Lsame_spec (s, tt, L, O, ()) (s, tt, L, O, ()) [.int .i64 s, .int .i64 tt, .slice al L.length cl, .slice ao O.length co] cw M22 w5 w6 kn km kn km
  rw [sameL_refl] at s1 s2 s3
  repeat (first|refine zJ rfl rfl ?_|refine jr rfl ?_|refine jn ?_|refine zM rfl rfl ?_|(refine zC rfl rfl ?_ rfl ?_;omega)|(refine zD rfl rfl ?_ rfl ?_;omega)|(refine zP rfl ?_ rfl ?_;omega)|refine zG rfl rfl rfl rfl ?_|(refine jdq rfl rfl ?_ ?_ ?_;kernel_rfl;kernel_rfl)|refine zB rfl rfl rfl (by repeat constructor) rfl ?_)
  refine oS (ev_load_agg (cs := d12) rfl rfl (rdb_all (.there (.there (.there (.there (.there (.there (.there .here)))))))) q12.1) rfl ?_
  refine oS (ev_load_agg (cs := d14) rfl rfl (rdb_all (.there (.there (.there (.there (.there (.there .here))))))) q14.1) rfl ?_
  refine oP (s1) Try.call10 rfl rfl ?_
  repeat (first|refine zJ rfl rfl ?_|refine jr rfl ?_|refine jn ?_|refine zM rfl rfl ?_|(refine zC rfl rfl ?_ rfl ?_;omega)|(refine zD rfl rfl ?_ rfl ?_;omega)|(refine zP rfl ?_ rfl ?_;omega)|refine zG rfl rfl rfl rfl ?_|(refine jdq rfl rfl ?_ ?_ ?_;kernel_rfl;kernel_rfl)|refine zB rfl rfl rfl (by repeat constructor) rfl ?_)
  refine oS (ev_load_agg (cs := d16) rfl rfl (rdb_all (.there (.there (.there (.there (.there .here)))))) q16.1) rfl ?_
  refine oS (ev_load_agg (cs := d17) rfl rfl (rdb_all (.there (.there (.there (.there .here))))) q17.1) rfl ?_
  refine oP (s2) Try.call10 rfl rfl ?_
  repeat (first|refine zJ rfl rfl ?_|refine jr rfl ?_|refine jn ?_|refine zM rfl rfl ?_|(refine zC rfl rfl ?_ rfl ?_;omega)|(refine zD rfl rfl ?_ rfl ?_;omega)|(refine zP rfl ?_ rfl ?_;omega)|refine zG rfl rfl rfl rfl ?_|(refine jdq rfl rfl ?_ ?_ ?_;kernel_rfl;kernel_rfl)|refine zB rfl rfl rfl (by repeat constructor) rfl ?_)
  refine oS (ev_load_agg (cs := ltC fl.1) rfl rfl (rdb_all (.there (.there (.there .here)))) (lt_len fl.1)) rfl ?_
  refine oS (ev_load_agg (cs := ltC fl.1) rfl rfl (rdb_all (.there (.there .here))) (lt_len fl.1)) rfl ?_
  refine oS (ev_lt_same rfl rfl) rfl ?_
  repeat (first|refine zJ rfl rfl ?_|refine jr rfl ?_|refine jn ?_|refine zM rfl rfl ?_|(refine zC rfl rfl ?_ rfl ?_;omega)|(refine zD rfl rfl ?_ rfl ?_;omega)|(refine zP rfl ?_ rfl ?_;omega)|refine zG rfl rfl rfl rfl ?_|(refine jdq rfl rfl ?_ ?_ ?_;kernel_rfl;kernel_rfl)|refine zB rfl rfl rfl (by repeat constructor) rfl ?_)
  rw [beq_self_eq_true fl.2]
  repeat (first|refine zJ rfl rfl ?_|refine jr rfl ?_|refine jn ?_|refine zM rfl rfl ?_|(refine zC rfl rfl ?_ rfl ?_;omega)|(refine zD rfl rfl ?_ rfl ?_;omega)|(refine zP rfl ?_ rfl ?_;omega)|refine zG rfl rfl rfl rfl ?_|(refine jdq rfl rfl ?_ ?_ ?_;kernel_rfl;kernel_rfl)|refine zB rfl rfl rfl (by repeat constructor) rfl ?_)
  refine oS (ev_load_agg (cs := ouC fo.1) rfl rfl (rdb_all (.there .here)) (ou_len fo.1)) rfl ?_
  refine oS (ev_load_agg (cs := ouC fo.1) rfl rfl (rdb_all (.here)) (ou_len fo.1)) rfl ?_
  refine oS (ev_ou_same rfl rfl) rfl ?_
  repeat (first|refine zJ rfl rfl ?_|refine jr rfl ?_|refine jn ?_|refine zM rfl rfl ?_|(refine zC rfl rfl ?_ rfl ?_;omega)|(refine zD rfl rfl ?_ rfl ?_;omega)|(refine zP rfl ?_ rfl ?_;omega)|refine zG rfl rfl rfl rfl ?_|(refine jdq rfl rfl ?_ ?_ ?_;kernel_rfl;kernel_rfl)|refine zB rfl rfl rfl (by repeat constructor) rfl ?_)
  rw [beq_self_eq_true fo.2]
  repeat (first|refine zJ rfl rfl ?_|refine jr rfl ?_|refine jn ?_|refine zM rfl rfl ?_|(refine zC rfl rfl ?_ rfl ?_;omega)|(refine zD rfl rfl ?_ rfl ?_;omega)|(refine zP rfl ?_ rfl ?_;omega)|refine zG rfl rfl rfl rfl ?_|(refine jdq rfl rfl ?_ ?_ ?_;kernel_rfl;kernel_rfl)|refine zB rfl rfl rfl (by repeat constructor) rfl ?_)
  refine oS (ev_load_agg (cs := [.int .i64 s, .int .i64 tt, .slice al L.length cl, .slice ao O.length co]) rfl rfl (rdb_all (.there (.there (.there (.there (.there (.there (.there (.there (.there (.there (.there .here)))))))))))) rfl) rfl ?_
  refine oS (ev_load_agg (cs := cw) rfl rfl (rdb_all (.there (.there (.there (.there (.there (.there (.there (.there .here))))))))) qw.1) rfl ?_
  refine oP (s3) Try.call10 rfl rfl ?_
  repeat (first|refine zJ rfl rfl ?_|refine jr rfl ?_|refine jn ?_|refine zM rfl rfl ?_|(refine zC rfl rfl ?_ rfl ?_;omega)|(refine zD rfl rfl ?_ rfl ?_;omega)|(refine zP rfl ?_ rfl ?_;omega)|refine zG rfl rfl rfl rfl ?_|(refine jdq rfl rfl ?_ ?_ ?_;kernel_rfl;kernel_rfl)|refine zB rfl rfl rfl (by repeat constructor) rfl ?_)
  refine oP (isName_spec name (by omega) M22) Try.call21 rfl rfl ?_
  repeat (first|refine zJ rfl rfl ?_|refine jr rfl ?_|refine jn ?_|refine zM rfl rfl ?_|(refine zC rfl rfl ?_ rfl ?_;omega)|(refine zD rfl rfl ?_ rfl ?_;omega)|(refine zP rfl ?_ rfl ?_;omega)|refine zG rfl rfl rfl rfl ?_|(refine jdq rfl rfl ?_ ?_ ?_;kernel_rfl;kernel_rfl)|refine zB rfl rfl rfl (by repeat constructor) rfl ?_)
  refine oP (IsName_spec name (by omega) M22) Try.call22 rfl rfl ?_
  refine oS (ev_beqlR (a := nameB name) (b := nameB name) (r := true) rfl rfl Try.underlying4 (beq_self_eq_true _)) rfl ?_
  repeat (first|refine zJ rfl rfl ?_|refine jr rfl ?_|refine jn ?_|refine zM rfl rfl ?_|(refine zC rfl rfl ?_ rfl ?_;omega)|(refine zD rfl rfl ?_ rfl ?_;omega)|(refine zP rfl ?_ rfl ?_;omega)|refine zG rfl rfl rfl rfl ?_|(refine jdq rfl rfl ?_ ?_ ?_;kernel_rfl;kernel_rfl)|refine zB rfl rfl rfl (by repeat constructor) rfl ?_)
  exact J_retv rfl (.tmp rfl .nil) [] (fun w s => s.drop.drop.drop.drop.drop.drop.drop.drop.drop.drop.drop.drop) hle9 ⟨rfl, rfl⟩
open Go.ChangeShapes Go.WideShapes Go.ChangeAt
set_option maxRecDepth 100000 in theorem LedgerTells_lifted (os : Os) (started : os.Started) (H : Type) (enc : TypeId × Value → H) : ReturnsInHanded {} Try.checked os 4 .any (Rows.ledgerTellsSpec.pre6 enc Try.prog Try.f4 Rows.ledgerTellsRow.domain false) (Rows.ledgerTellsSpec.post enc Try.prog Try.f4 false true false false) := by
  refine returnsInHanded_of_change (C := Try.checked) own_knob started (by kernel_rfl) Try.func4 (ChangeSpec.witness6 (enc := enc) (C := Try.checked) false ⟨#[], #[.agg zLg.toArray, .agg zLt.toArray, .agg zOu.toArray, .string .empty, .int .i64 0], []⟩ 8 (by kernel_rfl) (by kernel_rfl) (by kernel_rfl) (by kernel_rfl)) ?_; intro W base args ds gs before hval0 hW hcnd _; have hval : ∀ (j : Nat) t v, Try.f4.params[j]? = some t → args[j]? = some v → Value.okWide Try.prog W .any base t v := hval0; have hW' := hW; obtain ⟨p, q, hA0, hV, hp, hfz, hnd⟩ := hW; have hA : DataW.TrodAll enc Try.prog W 0 (fun _ => true) true Try.f4.params.toList args.toList ds p := hA0; obtain ⟨rfl, rfl⟩ := trodVars_none hV; rw [List.append_nil] at hp; have hA' := hA; rw [Try.params4] at hA hval
  obtain ⟨v0, vs0, d0, ds0, p0, q0, hargs, rfl, rfl, h0, r0⟩ := trodAll_cons hA; obtain ⟨v1, vs1, d1, ds1, p1, q1, rfl, rfl, rfl, h1, r1⟩ := trodAll_cons r0; obtain ⟨v2, vs2, d2, ds2, p2, q2, rfl, rfl, rfl, h2, r2⟩ := trodAll_cons r1; obtain ⟨v3, vs3, d3, ds3, p3, q3, rfl, rfl, rfl, h3, r3⟩ := trodAll_cons r2; obtain ⟨v4, vs4, d4, ds4, p4, q4, rfl, rfl, rfl, h4, r4⟩ := trodAll_cons r3; obtain ⟨rfl, rfl, rfl⟩ := trodAll_nil r4; obtain rfl : args = #[v0, v1, v2, v3, v4] := by cases args; simp_all
  obtain ⟨l, cl, rfl, hl⟩ := open_struct lyLg Try.underlying27 (hval 0 27 v0 rfl rfl) h0
  obtain ⟨x, cx, rfl, hx⟩ := open_struct lyLt Try.underlying37 (hval 1 37 v1 rfl rfl) h1
  obtain ⟨o, co, rfl, ho⟩ := open_struct lyOu Try.underlying39 (hval 2 39 v2 rfl rfl) h2
  obtain ⟨nm, rfl, hnm⟩ := open_text Try.underlying9 (hval 3 9 v3 rfl rfl) h3
  obtain ⟨c, rfl, rfl, rfl, w4⟩ := open_int Try.underlying3 (hval 4 3 v4 rfl rfl) h4
  obtain ⟨rfl, ix⟩ := lt_of hx
  obtain rfl := ou_of ho
  refine (law_walk (LedgerTells_walk l cl x o nm c (ph W) (lg_of hl) ix.1 hnm)).mono fun e W' ⟨he, hb'⟩ => ?_
  subst he
  exact ⟨_, rfl, law_post laid_out (by kernel_rfl) rfl rfl Try.underlying4 hW' hA' hp rfl hb'⟩
theorem LedgerTells_holds : Rows.LedgerTellsSaid := OpenClaim.holds_of_wide 4 Try.f4 rfl rfl rfl rfl rfl rfl rfl ⟨rfl, rfl, rfl, rfl, rfl⟩ rfl rfl rfl rfl rfl (by kernel_rfl) Try.func4 (by kernel_rfl) (of_decide_eq_true (by kernel_rfl)) (by unfold Func.isWrapper; first | (rw [if_pos (by decide +kernel)]; kernel_rfl) | (rw [if_neg (by decide +kernel)]; exact ⟨rfl, rfl⟩)) (fun os started H enc _ => LedgerTells_lifted os started H enc)
#print axioms LedgerTells_holds
end Go.Proofs.Ytifdlhafcfbeaaa
