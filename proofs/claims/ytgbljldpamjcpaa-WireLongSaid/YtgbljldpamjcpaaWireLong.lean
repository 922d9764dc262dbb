/-
  A message whose bytes are too many may not be, and isn't read; one less may be (WireLong). No condition.
-/
import Derived.Test.YtgbljldpamjcpaaWn
import Derived.Test.YtgbljldpamjcpaaKu
namespace Go.Proofs.Ytgbljldpamjcpaa
open Go.RowKit
theorem flat_u8 (n : Nat) : (List.replicate n [Value.int .u8 0]).flatten = u8s (List.replicate n (0 : UInt8)) := by
  induction n with
  | zero => rfl
  | succ n ih => rw [List.replicate_succ, List.flatten_cons, ih, List.replicate_succ]; rfl
theorem flat_tag (n : Nat) : (List.replicate n z32).flatten = ((List.replicate n (List.replicate 32 (0 : UInt8))).map u8s).flatten := by
  rw [List.map_replicate]
  rfl
theorem parseB_long {bs : List UInt8} (h : 1048576 < bs.length) : parseB bs = (3, 0, 0, [], []) := by unfold parseB; rw [if_pos h]
set_option maxHeartbeats 16000000 in
theorem WireLong_walk (more tags : Nat) (F : PH) (hmo : more < 256) (hta : tags < 256) : Pure Try.prog 7 [.int .u8 more, .int .u8 tags] F (.bool true) := by
  refine Spec.of2 Try.func7 rfl rfl fun X w0 => ?_
  repeat (first | refine jc rfl rfl ?_ | refine jr rfl ?_ | refine jn ?_ | refine oM rfl rfl ?_ | refine oS (ev_pv rfl) rfl ?_ | refine oX rfl ?_ | refine J_cond_t rfl ?_ | refine J_cond_f rfl ?_ | refine oS (eb rfl) rfl ?_ | (refine oS (ev_cmp_t rfl rfl ?_) rfl ?_; (dsimp only [cmpP] <;> omega)) | (refine oS (ev_cmp_f rfl rfl ?_) rfl ?_; (dsimp only [cmpN] <;> omega)) | (refine oS (ea rfl rfl rfl ?_) rfl ?_; (dsimp only [InK]; first | omega | exact ⟨Int.natCast_nonneg _, by omega⟩)) | (refine oS (ed rfl rfl rfl ?_ ?_ ?_) rfl ?_; (first | omega | exact Int.natCast_nonneg _); (first | omega | exact Int.natCast_nonneg _); (dsimp only [InK]; first | omega | exact ⟨Int.natCast_nonneg _, by omega⟩)) | refine oS (ev_fieldAddr rfl rfl) rfl ?_ | (refine oS (ev_conv rfl rfl rfl (wrap_in ?_)) rfl ?_; (dsimp only [InK]; first | omega | exact ⟨Int.natCast_nonneg _, by omega⟩)) | refine oS (ev_bool_eql rfl rfl rfl) rfl ?_ | refine oS (eg rfl rfl rfl) rfl ?_ | (refine jdq rfl rfl ?_ ?_ ?_; kernel_rfl; kernel_rfl) | (refine oS (ev_build (t := ?_) rfl rfl rfl ?_) rfl ?_; rotate_left; (repeat (first | exact FillF.nil | refine FillF.cons (by constructor) rfl rfl (by repeat constructor) ?_))) | refine oS (ev_ptr_eql_nil rfl rfl rfl) rfl ?_ | refine oS (ev_ptr_neq_nil rfl rfl rfl) rfl ?_ | refine oS (ev_load rfl rfl (Rdb.ofB (n := 0) .here rfl)) rfl ?_ | refine oS (ev_load rfl rfl (Rdb.ofB (n := 0) (.there .here) rfl)) rfl ?_ | refine oS (ev_load rfl rfl (Rdb.ofB (n := 0) (.there (.there .here)) rfl)) rfl ?_)
  refine oP (wfixed_true F) Try.call28 rfl rfl ?_
  obtain ⟨n, hn⟩ : ∃ n : Nat, (tags : Int) % 8 = (n : Int) := ⟨tags % 8, by omega⟩
  have hn7 : n ≤ 7 := by omega
  obtain ⟨L, hL⟩ : ∃ L : Nat, 1048568 - 32 * (n : Int) - 2 + (more : Int) % 5 = (L : Int) := ⟨1048566 - 32 * n + more % 5, by omega⟩
  have hL2 : L ≤ 1048576 := by omega
  have hLL := Lib.hid hL
  repeat (first | refine jc rfl rfl ?_ | refine jr rfl ?_ | refine jn ?_ | refine oM rfl rfl ?_ | refine oS (ev_pv rfl) rfl ?_ | refine oX rfl ?_ | refine J_cond_t rfl ?_ | refine J_cond_f rfl ?_ | refine oS (eb rfl) rfl ?_ | (refine oS (ev_cmp_t rfl rfl ?_) rfl ?_; (dsimp only [cmpP] <;> omega)) | (refine oS (ev_cmp_f rfl rfl ?_) rfl ?_; (dsimp only [cmpN] <;> omega)) | (refine oS (ea rfl rfl rfl ?_) rfl ?_; (dsimp only [InK]; first | omega | exact ⟨Int.natCast_nonneg _, by omega⟩)) | (refine oS (ed rfl rfl rfl ?_ ?_ ?_) rfl ?_; (first | omega | exact Int.natCast_nonneg _); (first | omega | exact Int.natCast_nonneg _); (dsimp only [InK]; first | omega | exact ⟨Int.natCast_nonneg _, by omega⟩)) | refine oS (ev_fieldAddr rfl rfl) rfl ?_ | (refine oS (ev_conv rfl rfl rfl (wrap_in ?_)) rfl ?_; (dsimp only [InK]; first | omega | exact ⟨Int.natCast_nonneg _, by omega⟩)) | refine oS (ev_bool_eql rfl rfl rfl) rfl ?_ | refine oS (eg rfl rfl rfl) rfl ?_ | (refine jdq rfl rfl ?_ ?_ ?_; kernel_rfl; kernel_rfl) | (refine oS (ev_build (t := ?_) rfl rfl rfl ?_) rfl ?_; rotate_left; (repeat (first | exact FillF.nil | refine FillF.cons (by constructor) rfl rfl (by repeat constructor) ?_))) | refine oS (ev_ptr_eql_nil rfl rfl rfl) rfl ?_ | refine oS (ev_ptr_neq_nil rfl rfl rfl) rfl ?_ | refine oS (ev_load rfl rfl (Rdb.ofB (n := 0) .here rfl)) rfl ?_ | refine oS (ev_load rfl rfl (Rdb.ofB (n := 0) (.there .here) rfl)) rfl ?_ | refine oS (ev_load rfl rfl (Rdb.ofB (n := 0) (.there (.there .here)) rfl)) rfl ?_)
  rw [hn]
  refine J_join (ι := Nat × Nat × Nat) [_] (fun _ => True) (fun i => [(0, .int .u8 more), (5, .int .i64 n), (6, .pointer (some ⟨i.2.2, 0, none⟩))]) (fun _ => F)
    (fun i => blk i.2.2 47 (msgC 1 0 (.slice (some ⟨i.1, 0, none⟩) L L) (.slice (some ⟨i.2.1, 0, none⟩) n n)) :: own (.slice (some ⟨i.1, 0, none⟩) L L) 5 1 L (List.replicate L [Value.int .u8 0]).flatten :: own (.slice (some ⟨i.2.1, 0, none⟩) n n) 65 32 n (List.replicate n z32).flatten :: X) ?_ ?_
  · refine ja F [] ?_ ?_ ?_; kernel_rfl
    · exact fun w s => s.bare
    refine aT 0 rfl (ev_pv rfl) rfl rfl ?_ ?_ ?_ ?_; kernel_rfl; kernel_rfl; kernel_rfl
    refine aT 1 rfl (ea rfl rfl rfl (by dsimp only [InK]; omega)) rfl rfl ?_ ?_ ?_ ?_; kernel_rfl; kernel_rfl; kernel_rfl
    refine aT 2 rfl (ea rfl rfl rfl (by dsimp only [InK]; omega)) rfl rfl ?_ ?_ ?_ ?_; kernel_rfl; kernel_rfl; kernel_rfl
    refine aT 3 rfl (ea rfl rfl rfl (by dsimp only [InK]; omega)) rfl rfl ?_ ?_ ?_ ?_; kernel_rfl; kernel_rfl; kernel_rfl
    refine aT 4 rfl (ev_pv rfl) rfl rfl ?_ ?_ ?_ ?_; kernel_rfl; kernel_rfl; kernel_rfl
    refine aT 5 rfl (ed rfl rfl rfl (by omega) (by omega) (by dsimp only [InK]; omega)) rfl rfl ?_ ?_ ?_ ?_; kernel_rfl; kernel_rfl; kernel_rfl
    refine aT 6 rfl (ev_conv rfl rfl rfl (wrap_in (by dsimp only [InK]; omega))) rfl rfl ?_ ?_ ?_ ?_; kernel_rfl; kernel_rfl; kernel_rfl
    refine aT 7 rfl (ea rfl rfl (congrArg some hL) (by dsimp only [InK]; omega)) rfl rfl ?_ ?_ ?_ ?_; kernel_rfl; kernel_rfl; kernel_rfl
    refine aT 9 rfl (ev_pv rfl) rfl rfl ?_ ?_ ?_ ?_; kernel_rfl; kernel_rfl; kernel_rfl
    refine aB3 (i := 8) (i' := 10) (i'' := 12) (by kernel_rfl) ?_ ?_ ?_
    · refine aE rfl (ev_make_full (c := L) rfl rfl elB (by omega)) rfl rfl (fun _ _ _ _ ⟨e, _, e2⟩ w s => by subst e; exact s.bare) ?_
      rintro _ _ _ _ ⟨rfl, ⟨b1, rfl⟩, rfl⟩
      refine aB2 (i := 10) (i' := 12) (by kernel_rfl) ?_ ?_
      · refine aE rfl (ev_make_full (c := n) rfl rfl elT (by omega)) rfl rfl (fun _ _ _ _ ⟨e, _, e2⟩ w s => by subst e; exact s.bare) ?_
        rintro _ _ _ _ ⟨rfl, ⟨b2, rfl⟩, rfl⟩
        refine aT 11 rfl (ev_build (t := msgC 1 0 (.slice (some ⟨b1, 0, none⟩) L L) (.slice (some ⟨b2, 0, none⟩) n n)) rfl rfl rfl (by repeat (first | exact FillF.nil | refine FillF.cons (by constructor) rfl rfl (by repeat constructor) ?_))) rfl rfl ?_ ?_ ?_ ?_; kernel_rfl; kernel_rfl; kernel_rfl
        refine aB (i := 12) (by kernel_rfl) ?_
        refine aE rfl (ev_alloc (cs := zMsg) rfl) rfl rfl (fun _ _ _ _ ⟨e, _⟩ w s => by subst e; exact s.bare) ?_
        rintro _ _ _ _ ⟨rfl, b6, rfl, rfl⟩
        refine aB (i := 13) (by kernel_rfl) (aN rfl (ev_store (b := b6) rfl rfl .agg rfl rfl (lay_all (zs := zMsg) rfl) (ones_msg _ _ _ _ _ _ _ _) .here) rfl (fun _ _ _ _ ⟨e, _, _⟩ w s => by subst e; exact s.bare) ?_)
        rintro _ _ _ _ ⟨rfl, _, rfl⟩
        refine aD (by kernel_rfl) ?_
        refine J_joined (b1, b2, b6) trivial ⟨⟨rfl, rfl, rfl, trivial⟩, fun w s => ?_⟩
        have s' := (((s.pick (.there .here)).pick (.there (.there .here))).pick (.there (.there .here)))
        exact s'
      · refine aE rfl (ev_alloc (cs := zMsg) rfl) rfl rfl (fun _ _ _ _ ⟨e, _⟩ w s => by subst e; exact s.bare) ?_
        rintro _ _ _ _ ⟨rfl, b6, rfl, rfl⟩
        refine aB (i := 10) (by kernel_rfl) ?_
        refine aE rfl (ev_make_full (c := n) rfl rfl elT (by omega)) rfl rfl (fun _ _ _ _ ⟨e, _, e2⟩ w s => by subst e; exact s.bare) ?_
        rintro _ _ _ _ ⟨rfl, ⟨b2, rfl⟩, rfl⟩
        refine aT 11 rfl (ev_build (t := msgC 1 0 (.slice (some ⟨b1, 0, none⟩) L L) (.slice (some ⟨b2, 0, none⟩) n n)) rfl rfl rfl (by repeat (first | exact FillF.nil | refine FillF.cons (by constructor) rfl rfl (by repeat constructor) ?_))) rfl rfl ?_ ?_ ?_ ?_; kernel_rfl; kernel_rfl; kernel_rfl
        refine aB (i := 13) (by kernel_rfl) (aN rfl (ev_store (b := b6) rfl rfl .agg rfl rfl (lay_all (zs := zMsg) rfl) (ones_msg _ _ _ _ _ _ _ _) (.there .here)) rfl (fun _ _ _ _ ⟨e, _, _⟩ w s => by subst e; exact s.bare) ?_)
        rintro _ _ _ _ ⟨rfl, _, rfl⟩
        refine aD (by kernel_rfl) ?_
        refine J_joined (b1, b2, b6) trivial ⟨⟨rfl, rfl, rfl, trivial⟩, fun w s => ?_⟩
        have s' := (((s.pick .here).pick (.there (.there .here))).pick (.there (.there .here)))
        exact s'
    · refine aE rfl (ev_make_full (c := n) rfl rfl elT (by omega)) rfl rfl (fun _ _ _ _ ⟨e, _, e2⟩ w s => by subst e; exact s.bare) ?_
      rintro _ _ _ _ ⟨rfl, ⟨b2, rfl⟩, rfl⟩
      refine aB2 (i := 8) (i' := 12) (by kernel_rfl) ?_ ?_
      · refine aE rfl (ev_make_full (c := L) rfl rfl elB (by omega)) rfl rfl (fun _ _ _ _ ⟨e, _, e2⟩ w s => by subst e; exact s.bare) ?_
        rintro _ _ _ _ ⟨rfl, ⟨b1, rfl⟩, rfl⟩
        refine aT 11 rfl (ev_build (t := msgC 1 0 (.slice (some ⟨b1, 0, none⟩) L L) (.slice (some ⟨b2, 0, none⟩) n n)) rfl rfl rfl (by repeat (first | exact FillF.nil | refine FillF.cons (by constructor) rfl rfl (by repeat constructor) ?_))) rfl rfl ?_ ?_ ?_ ?_; kernel_rfl; kernel_rfl; kernel_rfl
        refine aB (i := 12) (by kernel_rfl) ?_
        refine aE rfl (ev_alloc (cs := zMsg) rfl) rfl rfl (fun _ _ _ _ ⟨e, _⟩ w s => by subst e; exact s.bare) ?_
        rintro _ _ _ _ ⟨rfl, b6, rfl, rfl⟩
        refine aB (i := 13) (by kernel_rfl) (aN rfl (ev_store (b := b6) rfl rfl .agg rfl rfl (lay_all (zs := zMsg) rfl) (ones_msg _ _ _ _ _ _ _ _) .here) rfl (fun _ _ _ _ ⟨e, _, _⟩ w s => by subst e; exact s.bare) ?_)
        rintro _ _ _ _ ⟨rfl, _, rfl⟩
        refine aD (by kernel_rfl) ?_
        refine J_joined (b1, b2, b6) trivial ⟨⟨rfl, rfl, rfl, trivial⟩, fun w s => ?_⟩
        have s' := (((s.pick (.there (.there .here))).pick (.there (.there .here))).pick (.there (.there .here)))
        exact s'
      · refine aE rfl (ev_alloc (cs := zMsg) rfl) rfl rfl (fun _ _ _ _ ⟨e, _⟩ w s => by subst e; exact s.bare) ?_
        rintro _ _ _ _ ⟨rfl, b6, rfl, rfl⟩
        refine aB (i := 8) (by kernel_rfl) ?_
        refine aE rfl (ev_make_full (c := L) rfl rfl elB (by omega)) rfl rfl (fun _ _ _ _ ⟨e, _, e2⟩ w s => by subst e; exact s.bare) ?_
        rintro _ _ _ _ ⟨rfl, ⟨b1, rfl⟩, rfl⟩
        refine aT 11 rfl (ev_build (t := msgC 1 0 (.slice (some ⟨b1, 0, none⟩) L L) (.slice (some ⟨b2, 0, none⟩) n n)) rfl rfl rfl (by repeat (first | exact FillF.nil | refine FillF.cons (by constructor) rfl rfl (by repeat constructor) ?_))) rfl rfl ?_ ?_ ?_ ?_; kernel_rfl; kernel_rfl; kernel_rfl
        refine aB (i := 13) (by kernel_rfl) (aN rfl (ev_store (b := b6) rfl rfl .agg rfl rfl (lay_all (zs := zMsg) rfl) (ones_msg _ _ _ _ _ _ _ _) (.there .here)) rfl (fun _ _ _ _ ⟨e, _, _⟩ w s => by subst e; exact s.bare) ?_)
        rintro _ _ _ _ ⟨rfl, _, rfl⟩
        refine aD (by kernel_rfl) ?_
        refine J_joined (b1, b2, b6) trivial ⟨⟨rfl, rfl, rfl, trivial⟩, fun w s => ?_⟩
        have s' := (((s.pick (.there (.there .here))).pick (.there .here)).pick (.there (.there .here)))
        exact s'
    · refine aE rfl (ev_alloc (cs := zMsg) rfl) rfl rfl (fun _ _ _ _ ⟨e, _⟩ w s => by subst e; exact s.bare) ?_
      rintro _ _ _ _ ⟨rfl, b6, rfl, rfl⟩
      refine aB2 (i := 8) (i' := 10) (by kernel_rfl) ?_ ?_
      · refine aE rfl (ev_make_full (c := L) rfl rfl elB (by omega)) rfl rfl (fun _ _ _ _ ⟨e, _, e2⟩ w s => by subst e; exact s.bare) ?_
        rintro _ _ _ _ ⟨rfl, ⟨b1, rfl⟩, rfl⟩
        refine aB (i := 10) (by kernel_rfl) ?_
        refine aE rfl (ev_make_full (c := n) rfl rfl elT (by omega)) rfl rfl (fun _ _ _ _ ⟨e, _, e2⟩ w s => by subst e; exact s.bare) ?_
        rintro _ _ _ _ ⟨rfl, ⟨b2, rfl⟩, rfl⟩
        refine aT 11 rfl (ev_build (t := msgC 1 0 (.slice (some ⟨b1, 0, none⟩) L L) (.slice (some ⟨b2, 0, none⟩) n n)) rfl rfl rfl (by repeat (first | exact FillF.nil | refine FillF.cons (by constructor) rfl rfl (by repeat constructor) ?_))) rfl rfl ?_ ?_ ?_ ?_; kernel_rfl; kernel_rfl; kernel_rfl
        refine aB (i := 13) (by kernel_rfl) (aN rfl (ev_store (b := b6) rfl rfl .agg rfl rfl (lay_all (zs := zMsg) rfl) (ones_msg _ _ _ _ _ _ _ _) (.there (.there .here))) rfl (fun _ _ _ _ ⟨e, _, _⟩ w s => by subst e; exact s.bare) ?_)
        rintro _ _ _ _ ⟨rfl, _, rfl⟩
        refine aD (by kernel_rfl) ?_
        refine J_joined (b1, b2, b6) trivial ⟨⟨rfl, rfl, rfl, trivial⟩, fun w s => ?_⟩
        have s' := (((s.pick .here).pick (.there .here)).pick (.there (.there .here)))
        exact s'
      · refine aE rfl (ev_make_full (c := n) rfl rfl elT (by omega)) rfl rfl (fun _ _ _ _ ⟨e, _, e2⟩ w s => by subst e; exact s.bare) ?_
        rintro _ _ _ _ ⟨rfl, ⟨b2, rfl⟩, rfl⟩
        refine aB (i := 8) (by kernel_rfl) ?_
        refine aE rfl (ev_make_full (c := L) rfl rfl elB (by omega)) rfl rfl (fun _ _ _ _ ⟨e, _, e2⟩ w s => by subst e; exact s.bare) ?_
        rintro _ _ _ _ ⟨rfl, ⟨b1, rfl⟩, rfl⟩
        refine aT 11 rfl (ev_build (t := msgC 1 0 (.slice (some ⟨b1, 0, none⟩) L L) (.slice (some ⟨b2, 0, none⟩) n n)) rfl rfl rfl (by repeat (first | exact FillF.nil | refine FillF.cons (by constructor) rfl rfl (by repeat constructor) ?_))) rfl rfl ?_ ?_ ?_ ?_; kernel_rfl; kernel_rfl; kernel_rfl
        refine aB (i := 13) (by kernel_rfl) (aN rfl (ev_store (b := b6) rfl rfl .agg rfl rfl (lay_all (zs := zMsg) rfl) (ones_msg _ _ _ _ _ _ _ _) (.there (.there .here))) rfl (fun _ _ _ _ ⟨e, _, _⟩ w s => by subst e; exact s.bare) ?_)
        rintro _ _ _ _ ⟨rfl, _, rfl⟩
        refine aD (by kernel_rfl) ?_
        refine J_joined (b1, b2, b6) trivial ⟨⟨rfl, rfl, rfl, trivial⟩, fun w s => ?_⟩
        have s' := (((s.pick (.there .here)).pick (.there .here)).pick (.there (.there .here)))
        exact s'
  rintro ⟨b1, b2, b6⟩ _
  dsimp only
  refine J_pick (.there .here) (J_persist fun h1 hA1 hd1 => ?_)
  have hb : Byt (F.un h1) (.slice (some ⟨b1, 0, none⟩) L L) (List.replicate L 0) := by
    have := own_slice hA1 hd1
    rw [flat_u8] at this
    unfold Byt
    rwa [List.length_replicate]
  have hle1 := PH.le_l F h1
  generalize F.un h1 = F1 at *
  refine J_pick (.there .here) (J_persist fun h2 hA2 hd2 => ?_)
  have ht : Tags (F1.un h2) (.slice (some ⟨b2, 0, none⟩) n n) (List.replicate n (List.replicate 32 0)) := by
    have := own_slice hA2 hd2
    rw [flat_tag] at this
    refine ⟨?_, fun t h => by rw [(List.mem_replicate.1 h).2, List.length_replicate]⟩
    rwa [List.length_replicate]
  have hle2 := PH.le_l F1 h2
  generalize F1.un h2 = F2 at *
  replace hb := hb.mono hle2
  have hlb : (List.replicate L (0 : UInt8)).length = L := List.length_replicate
  have hlt : (List.replicate n (List.replicate 32 (0 : UInt8))).length = n := List.length_replicate
  have hwl := wireB_len (ku := 1) (fu := 0) (bs := List.replicate L 0) ht.2
  rw [hlb, hlt] at hwl
  have s1 := check_spec 1 0 _ _ _ _ F2 hb ht (by omega)
  have s2 := bytes_spec 1 0 _ _ _ _ 1 0 F2 hb ht (by omega) (by omega) rfl rfl (by decide) (by decide)
  rw [hlb, hlt] at s1
  repeat (first | refine jc rfl rfl ?_ | refine jr rfl ?_ | refine jn ?_ | refine oM rfl rfl ?_ | refine oS (ev_pv rfl) rfl ?_ | refine oX rfl ?_ | refine J_cond_t rfl ?_ | refine J_cond_f rfl ?_ | refine oS (eb rfl) rfl ?_ | (refine oS (ev_cmp_t rfl rfl ?_) rfl ?_; (dsimp only [cmpP] <;> omega)) | (refine oS (ev_cmp_f rfl rfl ?_) rfl ?_; (dsimp only [cmpN] <;> omega)) | (refine oS (ea rfl rfl rfl ?_) rfl ?_; (dsimp only [InK]; first | omega | exact ⟨Int.natCast_nonneg _, by omega⟩)) | (refine oS (ed rfl rfl rfl ?_ ?_ ?_) rfl ?_; (first | omega | exact Int.natCast_nonneg _); (first | omega | exact Int.natCast_nonneg _); (dsimp only [InK]; first | omega | exact ⟨Int.natCast_nonneg _, by omega⟩)) | refine oS (ev_fieldAddr rfl rfl) rfl ?_ | (refine oS (ev_conv rfl rfl rfl (wrap_in ?_)) rfl ?_; (dsimp only [InK]; first | omega | exact ⟨Int.natCast_nonneg _, by omega⟩)) | refine oS (ev_bool_eql rfl rfl rfl) rfl ?_ | refine oS (eg rfl rfl rfl) rfl ?_ | (refine jdq rfl rfl ?_ ?_ ?_; kernel_rfl; kernel_rfl) | (refine oS (ev_build (t := ?_) rfl rfl rfl ?_) rfl ?_; rotate_left; (repeat (first | exact FillF.nil | refine FillF.cons (by constructor) rfl rfl (by repeat constructor) ?_))) | refine oS (ev_ptr_eql_nil rfl rfl rfl) rfl ?_ | refine oS (ev_ptr_neq_nil rfl rfl rfl) rfl ?_ | refine oS (ev_load rfl rfl (Rdb.ofB (n := 0) .here rfl)) rfl ?_ | refine oS (ev_load rfl rfl (Rdb.ofB (n := 0) (.there .here) rfl)) rfl ?_ | refine oS (ev_load rfl rfl (Rdb.ofB (n := 0) (.there (.there .here)) rfl)) rfl ?_)
  refine oS (ev_load_agg (cs := msgC 1 0 (.slice (some ⟨b1, 0, none⟩) L L) (.slice (some ⟨b2, 0, none⟩) n n)) rfl rfl (Rdb.ofB (n := 0) .here rfl) rfl) rfl ?_
  refine oC (Hc := []) (Hr := blk b6 47 (msgC 1 0 (.slice (some ⟨b1, 0, none⟩) L L) (.slice (some ⟨b2, 0, none⟩) n n)) :: X) s2 Try.call32 rfl rfl (fun _ s => s) ?_
  rintro u F3 _ hF3 rfl
  refine oWith .here OwnForm.of fun hfx => ?_
  obtain ⟨ax, cx, rfl, hcx, _, _⟩ := hfx
  refine oPersist fun h3 hA3 hd3 => ?_
  have hp := bytes_byt hA3 hd3
  have hle3 := hF3.trans (PH.le_l F3 h3)
  generalize F3.un h3 = F4 at *
  refine oC (Hc := []) (Hr := blk b6 47 (msgC 1 0 (.slice (some ⟨b1, 0, none⟩) L L) (.slice (some ⟨b2, 0, none⟩) n n)) :: X) (parse_spec _ _ F4 hp (by omega)) Try.call29 rfl rfl (fun _ s => s) ?_
  rintro _ F5 _ hF5 ⟨rfl, wb, wt, rfl, hwb, hwt⟩
  obtain ⟨a5, c5, rfl, hc5⟩ := hwb.form
  obtain ⟨a6, c6, rfl, hc6⟩ := hwt.form
  have hFF := hle1.trans (hle2.trans (hle3.trans hF5))
  have s1 := check_spec 1 0 _ _ _ _ F5 (hb.mono (hle3.trans hF5)) (ht.mono (hle3.trans hF5)) (by omega)
  rw [hlb, hlt] at s1
  have hodd : oddB 1 0 = false := by decide
  by_cases hlong : 2 < (more : Int) % 5
  · have hce : chkE 1 0 L n = 3 := by unfold chkE; rw [hodd, if_neg (by decide), if_neg (by omega), if_pos (by omega)]
    have hpe : parseB (wireB 1 0 (List.replicate L 0) (List.replicate n (List.replicate 32 0))) = (3, 0, 0, [], []) := parseB_long (by omega)
    rw [hce] at s1
    rw [hpe]
    dsimp only
    repeat (first | refine jc rfl rfl ?_ | refine jr rfl ?_ | refine jn ?_ | refine oM rfl rfl ?_ | refine oS (ev_pv rfl) rfl ?_ | refine oX rfl ?_ | refine J_cond_t rfl ?_ | refine J_cond_f rfl ?_ | refine oS (eb rfl) rfl ?_ | (refine oS (ev_cmp_t rfl rfl ?_) rfl ?_; (dsimp only [cmpP] <;> omega)) | (refine oS (ev_cmp_f rfl rfl ?_) rfl ?_; (dsimp only [cmpN] <;> omega)) | (refine oS (ea rfl rfl rfl ?_) rfl ?_; (dsimp only [InK]; first | omega | exact ⟨Int.natCast_nonneg _, by omega⟩)) | (refine oS (ed rfl rfl rfl ?_ ?_ ?_) rfl ?_; (first | omega | exact Int.natCast_nonneg _); (first | omega | exact Int.natCast_nonneg _); (dsimp only [InK]; first | omega | exact ⟨Int.natCast_nonneg _, by omega⟩)) | refine oS (ev_fieldAddr rfl rfl) rfl ?_ | (refine oS (ev_conv rfl rfl rfl (wrap_in ?_)) rfl ?_; (dsimp only [InK]; first | omega | exact ⟨Int.natCast_nonneg _, by omega⟩)) | refine oS (ev_bool_eql rfl rfl rfl) rfl ?_ | refine oS (eg rfl rfl rfl) rfl ?_ | (refine jdq rfl rfl ?_ ?_ ?_; kernel_rfl; kernel_rfl) | (refine oS (ev_build (t := ?_) rfl rfl rfl ?_) rfl ?_; rotate_left; (repeat (first | exact FillF.nil | refine FillF.cons (by constructor) rfl rfl (by repeat constructor) ?_))) | refine oS (ev_ptr_eql_nil rfl rfl rfl) rfl ?_ | refine oS (ev_ptr_neq_nil rfl rfl rfl) rfl ?_ | refine oS (ev_load rfl rfl (Rdb.ofB (n := 0) .here rfl)) rfl ?_ | refine oS (ev_load rfl rfl (Rdb.ofB (n := 0) (.there .here) rfl)) rfl ?_ | refine oS (ev_load rfl rfl (Rdb.ofB (n := 0) (.there (.there .here)) rfl)) rfl ?_)
    refine oE (ev_alloc rfl) rfl ?_; rintro _ _ _ _ ⟨rfl, b7, rfl, rfl⟩; refine oN (ev_store rfl rfl .agg rfl rfl (lay_all ?_) ?_ .here) rfl ?_; rfl; rotate_left; rintro _ _ _ _ ⟨rfl, rfl, rfl⟩; rotate_left
    · exact ones_msg _ _ _ _ _ _ _ _
    repeat (first | refine jc rfl rfl ?_ | refine jr rfl ?_ | refine jn ?_ | refine oM rfl rfl ?_ | refine oS (ev_pv rfl) rfl ?_ | refine oX rfl ?_ | refine J_cond_t rfl ?_ | refine J_cond_f rfl ?_ | refine oS (eb rfl) rfl ?_ | (refine oS (ev_cmp_t rfl rfl ?_) rfl ?_; (dsimp only [cmpP] <;> omega)) | (refine oS (ev_cmp_f rfl rfl ?_) rfl ?_; (dsimp only [cmpN] <;> omega)) | (refine oS (ea rfl rfl rfl ?_) rfl ?_; (dsimp only [InK]; first | omega | exact ⟨Int.natCast_nonneg _, by omega⟩)) | (refine oS (ed rfl rfl rfl ?_ ?_ ?_) rfl ?_; (first | omega | exact Int.natCast_nonneg _); (first | omega | exact Int.natCast_nonneg _); (dsimp only [InK]; first | omega | exact ⟨Int.natCast_nonneg _, by omega⟩)) | refine oS (ev_fieldAddr rfl rfl) rfl ?_ | (refine oS (ev_conv rfl rfl rfl (wrap_in ?_)) rfl ?_; (dsimp only [InK]; first | omega | exact ⟨Int.natCast_nonneg _, by omega⟩)) | refine oS (ev_bool_eql rfl rfl rfl) rfl ?_ | refine oS (eg rfl rfl rfl) rfl ?_ | (refine jdq rfl rfl ?_ ?_ ?_; kernel_rfl; kernel_rfl) | (refine oS (ev_build (t := ?_) rfl rfl rfl ?_) rfl ?_; rotate_left; (repeat (first | exact FillF.nil | refine FillF.cons (by constructor) rfl rfl (by repeat constructor) ?_))) | refine oS (ev_ptr_eql_nil rfl rfl rfl) rfl ?_ | refine oS (ev_ptr_neq_nil rfl rfl rfl) rfl ?_ | refine oS (ev_load rfl rfl (Rdb.ofB (n := 0) .here rfl)) rfl ?_ | refine oS (ev_load rfl rfl (Rdb.ofB (n := 0) (.there .here) rfl)) rfl ?_ | refine oS (ev_load rfl rfl (Rdb.ofB (n := 0) (.there (.there .here)) rfl)) rfl ?_)
    refine oS (ev_load_agg (cs := msgC 1 0 (.slice (some ⟨b1, 0, none⟩) L L) (.slice (some ⟨b2, 0, none⟩) n n)) rfl rfl (Rdb.ofB (n := 0) (.there .here) rfl) rfl) rfl ?_
    refine oP (s1) Try.call33 rfl rfl ?_
    repeat (first | refine jc rfl rfl ?_ | refine jr rfl ?_ | refine jn ?_ | refine oM rfl rfl ?_ | refine oS (ev_pv rfl) rfl ?_ | refine oX rfl ?_ | refine J_cond_t rfl ?_ | refine J_cond_f rfl ?_ | refine oS (eb rfl) rfl ?_ | (refine oS (ev_cmp_t rfl rfl ?_) rfl ?_; (dsimp only [cmpP] <;> omega)) | (refine oS (ev_cmp_f rfl rfl ?_) rfl ?_; (dsimp only [cmpN] <;> omega)) | (refine oS (ea rfl rfl rfl ?_) rfl ?_; (dsimp only [InK]; first | omega | exact ⟨Int.natCast_nonneg _, by omega⟩)) | (refine oS (ed rfl rfl rfl ?_ ?_ ?_) rfl ?_; (first | omega | exact Int.natCast_nonneg _); (first | omega | exact Int.natCast_nonneg _); (dsimp only [InK]; first | omega | exact ⟨Int.natCast_nonneg _, by omega⟩)) | refine oS (ev_fieldAddr rfl rfl) rfl ?_ | (refine oS (ev_conv rfl rfl rfl (wrap_in ?_)) rfl ?_; (dsimp only [InK]; first | omega | exact ⟨Int.natCast_nonneg _, by omega⟩)) | refine oS (ev_bool_eql rfl rfl rfl) rfl ?_ | refine oS (eg rfl rfl rfl) rfl ?_ | (refine jdq rfl rfl ?_ ?_ ?_; kernel_rfl; kernel_rfl) | (refine oS (ev_build (t := ?_) rfl rfl rfl ?_) rfl ?_; rotate_left; (repeat (first | exact FillF.nil | refine FillF.cons (by constructor) rfl rfl (by repeat constructor) ?_))) | refine oS (ev_ptr_eql_nil rfl rfl rfl) rfl ?_ | refine oS (ev_ptr_neq_nil rfl rfl rfl) rfl ?_ | refine oS (ev_load rfl rfl (Rdb.ofB (n := 0) .here rfl)) rfl ?_ | refine oS (ev_load rfl rfl (Rdb.ofB (n := 0) (.there .here) rfl)) rfl ?_ | refine oS (ev_load rfl rfl (Rdb.ofB (n := 0) (.there (.there .here)) rfl)) rfl ?_)
    exact J_retv rfl (.tmp rfl .nil) [] (fun w s => s.drop.drop) hFF ⟨rfl, rfl⟩
  · have hce : chkE 1 0 L n = 0 := by unfold chkE; rw [hodd, if_neg (by decide), if_neg (by omega), if_neg (by omega)]
    have hpe := parseB_wire (k := 1) (f := 0) hodd (List.replicate L 0) (List.replicate n (List.replicate 32 0)) [] (by omega) ht.2 (by rw [List.append_nil]; omega)
    rw [List.append_nil, if_pos rfl] at hpe
    rw [hce] at s1
    rw [hpe]
    dsimp only
    repeat (first | refine jc rfl rfl ?_ | refine jr rfl ?_ | refine jn ?_ | refine oM rfl rfl ?_ | refine oS (ev_pv rfl) rfl ?_ | refine oX rfl ?_ | refine J_cond_t rfl ?_ | refine J_cond_f rfl ?_ | refine oS (eb rfl) rfl ?_ | (refine oS (ev_cmp_t rfl rfl ?_) rfl ?_; (dsimp only [cmpP] <;> omega)) | (refine oS (ev_cmp_f rfl rfl ?_) rfl ?_; (dsimp only [cmpN] <;> omega)) | (refine oS (ea rfl rfl rfl ?_) rfl ?_; (dsimp only [InK]; first | omega | exact ⟨Int.natCast_nonneg _, by omega⟩)) | (refine oS (ed rfl rfl rfl ?_ ?_ ?_) rfl ?_; (first | omega | exact Int.natCast_nonneg _); (first | omega | exact Int.natCast_nonneg _); (dsimp only [InK]; first | omega | exact ⟨Int.natCast_nonneg _, by omega⟩)) | refine oS (ev_fieldAddr rfl rfl) rfl ?_ | (refine oS (ev_conv rfl rfl rfl (wrap_in ?_)) rfl ?_; (dsimp only [InK]; first | omega | exact ⟨Int.natCast_nonneg _, by omega⟩)) | refine oS (ev_bool_eql rfl rfl rfl) rfl ?_ | refine oS (eg rfl rfl rfl) rfl ?_ | (refine jdq rfl rfl ?_ ?_ ?_; kernel_rfl; kernel_rfl) | (refine oS (ev_build (t := ?_) rfl rfl rfl ?_) rfl ?_; rotate_left; (repeat (first | exact FillF.nil | refine FillF.cons (by constructor) rfl rfl (by repeat constructor) ?_))) | refine oS (ev_ptr_eql_nil rfl rfl rfl) rfl ?_ | refine oS (ev_ptr_neq_nil rfl rfl rfl) rfl ?_ | refine oS (ev_load rfl rfl (Rdb.ofB (n := 0) .here rfl)) rfl ?_ | refine oS (ev_load rfl rfl (Rdb.ofB (n := 0) (.there .here) rfl)) rfl ?_ | refine oS (ev_load rfl rfl (Rdb.ofB (n := 0) (.there (.there .here)) rfl)) rfl ?_)
    refine oE (ev_alloc rfl) rfl ?_; rintro _ _ _ _ ⟨rfl, b7, rfl, rfl⟩; refine oN (ev_store rfl rfl .agg rfl rfl (lay_all ?_) ?_ .here) rfl ?_; rfl; rotate_left; rintro _ _ _ _ ⟨rfl, rfl, rfl⟩; rotate_left
    · exact ones_msg _ _ _ _ _ _ _ _
    repeat (first | refine jc rfl rfl ?_ | refine jr rfl ?_ | refine jn ?_ | refine oM rfl rfl ?_ | refine oS (ev_pv rfl) rfl ?_ | refine oX rfl ?_ | refine J_cond_t rfl ?_ | refine J_cond_f rfl ?_ | refine oS (eb rfl) rfl ?_ | (refine oS (ev_cmp_t rfl rfl ?_) rfl ?_; (dsimp only [cmpP] <;> omega)) | (refine oS (ev_cmp_f rfl rfl ?_) rfl ?_; (dsimp only [cmpN] <;> omega)) | (refine oS (ea rfl rfl rfl ?_) rfl ?_; (dsimp only [InK]; first | omega | exact ⟨Int.natCast_nonneg _, by omega⟩)) | (refine oS (ed rfl rfl rfl ?_ ?_ ?_) rfl ?_; (first | omega | exact Int.natCast_nonneg _); (first | omega | exact Int.natCast_nonneg _); (dsimp only [InK]; first | omega | exact ⟨Int.natCast_nonneg _, by omega⟩)) | refine oS (ev_fieldAddr rfl rfl) rfl ?_ | (refine oS (ev_conv rfl rfl rfl (wrap_in ?_)) rfl ?_; (dsimp only [InK]; first | omega | exact ⟨Int.natCast_nonneg _, by omega⟩)) | refine oS (ev_bool_eql rfl rfl rfl) rfl ?_ | refine oS (eg rfl rfl rfl) rfl ?_ | (refine jdq rfl rfl ?_ ?_ ?_; kernel_rfl; kernel_rfl) | (refine oS (ev_build (t := ?_) rfl rfl rfl ?_) rfl ?_; rotate_left; (repeat (first | exact FillF.nil | refine FillF.cons (by constructor) rfl rfl (by repeat constructor) ?_))) | refine oS (ev_ptr_eql_nil rfl rfl rfl) rfl ?_ | refine oS (ev_ptr_neq_nil rfl rfl rfl) rfl ?_ | refine oS (ev_load rfl rfl (Rdb.ofB (n := 0) .here rfl)) rfl ?_ | refine oS (ev_load rfl rfl (Rdb.ofB (n := 0) (.there .here) rfl)) rfl ?_ | refine oS (ev_load rfl rfl (Rdb.ofB (n := 0) (.there (.there .here)) rfl)) rfl ?_)
    refine oS (ev_load_agg (cs := msgC 1 0 (.slice (some ⟨b1, 0, none⟩) L L) (.slice (some ⟨b2, 0, none⟩) n n)) rfl rfl (Rdb.ofB (n := 0) (.there .here) rfl) rfl) rfl ?_
    refine oP (s1) Try.call33 rfl rfl ?_
    repeat (first | refine jc rfl rfl ?_ | refine jr rfl ?_ | refine jn ?_ | refine oM rfl rfl ?_ | refine oS (ev_pv rfl) rfl ?_ | refine oX rfl ?_ | refine J_cond_t rfl ?_ | refine J_cond_f rfl ?_ | refine oS (eb rfl) rfl ?_ | (refine oS (ev_cmp_t rfl rfl ?_) rfl ?_; (dsimp only [cmpP] <;> omega)) | (refine oS (ev_cmp_f rfl rfl ?_) rfl ?_; (dsimp only [cmpN] <;> omega)) | (refine oS (ea rfl rfl rfl ?_) rfl ?_; (dsimp only [InK]; first | omega | exact ⟨Int.natCast_nonneg _, by omega⟩)) | (refine oS (ed rfl rfl rfl ?_ ?_ ?_) rfl ?_; (first | omega | exact Int.natCast_nonneg _); (first | omega | exact Int.natCast_nonneg _); (dsimp only [InK]; first | omega | exact ⟨Int.natCast_nonneg _, by omega⟩)) | refine oS (ev_fieldAddr rfl rfl) rfl ?_ | (refine oS (ev_conv rfl rfl rfl (wrap_in ?_)) rfl ?_; (dsimp only [InK]; first | omega | exact ⟨Int.natCast_nonneg _, by omega⟩)) | refine oS (ev_bool_eql rfl rfl rfl) rfl ?_ | refine oS (eg rfl rfl rfl) rfl ?_ | (refine jdq rfl rfl ?_ ?_ ?_; kernel_rfl; kernel_rfl) | (refine oS (ev_build (t := ?_) rfl rfl rfl ?_) rfl ?_; rotate_left; (repeat (first | exact FillF.nil | refine FillF.cons (by constructor) rfl rfl (by repeat constructor) ?_))) | refine oS (ev_ptr_eql_nil rfl rfl rfl) rfl ?_ | refine oS (ev_ptr_neq_nil rfl rfl rfl) rfl ?_ | refine oS (ev_load rfl rfl (Rdb.ofB (n := 0) .here rfl)) rfl ?_ | refine oS (ev_load rfl rfl (Rdb.ofB (n := 0) (.there .here) rfl)) rfl ?_ | refine oS (ev_load rfl rfl (Rdb.ofB (n := 0) (.there (.there .here)) rfl)) rfl ?_)
    exact J_retv rfl (.tmp rfl .nil) [] (fun w s => s.drop.drop) hFF ⟨rfl, rfl⟩
open Go.ChangeShapes Go.WideShapes Go.ChangeAt
set_option maxRecDepth 100000 in theorem WireLong_lifted (os : Os) (started : os.Started) (H : Type) (enc : TypeId × Value → H) : ReturnsInHanded {} Try.checked os 7 .any (Rows.wireLongSpec.pre6 enc Try.prog Try.f7 Rows.wireLongRow.domain false) (Rows.wireLongSpec.post enc Try.prog Try.f7 false true false false) := by
  refine returnsInHanded_of_change (C := Try.checked) own_knob started (by kernel_rfl) Try.func7 (ChangeSpec.witness6 (enc := enc) (C := Try.checked) false ⟨#[], #[.int .u8 0, .int .u8 0], []⟩ 8 (by kernel_rfl) (by kernel_rfl) (by kernel_rfl) (by kernel_rfl)) ?_; intro W base args ds gs before hval0 hW hcnd _; have hval : ∀ (j : Nat) t v, Try.f7.params[j]? = some t → args[j]? = some v → Value.okWide Try.prog W .any base t v := hval0; have hW' := hW; obtain ⟨p, q, hA0, hV, hp, hfz, hnd⟩ := hW; have hA : DataW.TrodAll enc Try.prog W 0 (fun _ => true) true Try.f7.params.toList args.toList ds p := hA0; obtain ⟨rfl, rfl⟩ := trodVars_none hV; rw [List.append_nil] at hp; have hA' := hA; rw [Try.params7] at hA hval
  obtain ⟨v0, vs0, d0, ds0, p0, q0, hargs, rfl, rfl, h0, r0⟩ := trodAll_cons hA; obtain ⟨v1, vs1, d1, ds1, p1, q1, rfl, rfl, rfl, h1, r1⟩ := trodAll_cons r0; obtain ⟨rfl, rfl, rfl⟩ := trodAll_nil r1; obtain rfl : args = #[v0, v1] := by cases args; simp_all
  obtain ⟨a0, rfl, rfl, rfl, w0⟩ := open_int Try.underlying5 (hval 0 5 v0 rfl rfl) h0
  obtain ⟨a1, rfl, rfl, rfl, w1⟩ := open_int Try.underlying5 (hval 1 5 v1 rfl rfl) h1
  have hw0 := bounds_u8 w0
  have hw1 := bounds_u8 w1
  obtain ⟨m0, rfl⟩ : ∃ b : Nat, a0 = (b : Int) := ⟨a0.toNat, by omega⟩
  obtain ⟨m1, rfl⟩ : ∃ b : Nat, a1 = (b : Int) := ⟨a1.toNat, by omega⟩
  refine (law_walk (WireLong_walk m0 m1 (ph W) (by omega) (by omega))).mono fun e W' ⟨he, hb⟩ => ?_
  subst he
  exact ⟨_, rfl, law_post laid_out (by kernel_rfl) rfl rfl Try.underlying4 hW' hA' hp rfl hb⟩
theorem WireLong_holds : Rows.WireLongSaid := OpenClaim.holds_of_wide 7 Try.f7 rfl rfl rfl rfl rfl rfl rfl ⟨rfl, rfl, rfl, rfl, rfl⟩ rfl rfl rfl rfl rfl (by kernel_rfl) Try.func7 (by kernel_rfl) (of_decide_eq_true (by kernel_rfl)) (by unfold Func.isWrapper; first | (rw [if_pos (by decide +kernel)]; kernel_rfl) | (rw [if_neg (by decide +kernel)]; exact ⟨rfl, rfl⟩)) (fun os started H enc _ => WireLong_lifted os started H enc)
#print axioms WireLong_holds
end Go.Proofs.Ytgbljldpamjcpaa
