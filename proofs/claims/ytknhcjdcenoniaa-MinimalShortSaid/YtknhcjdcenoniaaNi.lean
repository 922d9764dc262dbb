/-
  A policy's dual and one without needless nodes: plain laws; the calls whose answers the document fixes. No condition.
-/
import Derived.Test.YtknhcjdcenoniaaNh
namespace Go.Proofs.Ytknhcjdcenoniaa
open Go.RowKit
theorem nodesL_le {g : Fm → Fm} : ∀ {ks : List Fm}, (∀ k ∈ ks, (g k).nodes ≤ k.nodes) → nodesL (ks.map g) ≤ nodesL ks
  | [], _ => Nat.le_refl _
  | k :: ks, h => by
    rw [List.map_cons, nodesL, nodesL]
    have := h k List.mem_cons_self
    have := nodesL_le (g := g) (ks := ks) fun x hx => h x (List.mem_cons_of_mem _ hx)
    omega
theorem depthL_le {g : Fm → Fm} : ∀ {ks : List Fm}, (∀ k ∈ ks, (g k).depth ≤ k.depth) → depthL (ks.map g) ≤ depthL ks
  | [], _ => Nat.le_refl _
  | k :: ks, h => by
    rw [List.map_cons, depthL, depthL]
    have := h k List.mem_cons_self
    have := depthL_le (g := g) (ks := ks) fun x hx => h x (List.mem_cons_of_mem _ hx)
    omega
theorem Fm.indm {p : Fm → Prop} (h : ∀ f, (∀ k ∈ f.ks, p k) → p f) (f : Fm) : p f := Fm.ind (fun f ih => h f fun k hk => by
  obtain ⟨i, hi⟩ := List.getElem?_of_mem hk
  exact ih i k hi) f
theorem ok_iff (f : Fm) : f.ok = true ↔ f.nodes ≤ 32 ∧ f.depth ≤ 5 ∧ f.rng 7 = true := by
  unfold Fm.ok Fm.chk
  rw [decide_eq_true_eq, if_neg (by decide)]
  split
  · constructor
    · intro h; cases h
    · rintro ⟨h, _⟩; omega
  · split
    · constructor
      · intro h; cases h
      · rintro ⟨_, h, _⟩; omega
    · cases hr : f.rng 7 with
      | true => exact ⟨fun _ => ⟨by omega, by omega, rfl⟩, fun _ => by rw [if_pos rfl]⟩
      | false =>
        rw [if_neg (by decide)]
        constructor
        · intro h; cases h
        · rintro ⟨_, _, h⟩; cases h
theorem rng_mem {f : Fm} (h : f.rng 7 = true) (hz : ¬ f.ks.length = 0) : ∀ k ∈ f.ks, k.rng 7 = true := fun k hk => by
  obtain ⟨i, hi⟩ := List.getElem?_of_mem hk
  exact (rng_inner h hz).2.2.2 i k hi
theorem holds_node (o a : Int) (ks : List Fm) (s : Nat) : (Fm.node o a ks).holds s = if ks.length = 0 then s.testBit o.toNat else decide (a ≤ (ks.countP (·.holds s) : Nat)) := Fm.holds_eq s (.node o a ks)
theorem rng_node (n o a : Int) (ks : List Fm) : (Fm.node o a ks).rng n = if ks.length = 0 then decide (0 ≤ o ∧ o < n ∧ a = 0) else ks.all (·.rng n) && decide (1 ≤ a ∧ a ≤ ks.length ∧ o = 0) := Fm.rng_eq n (.node o a ks)
theorem rng_mk {o a : Int} {ks : List Fm} (hz : ¬ ks.length = 0) (h : ∀ k ∈ ks, k.rng 7 = true) (h1 : 1 ≤ a) (h2 : a ≤ ks.length) (h3 : o = 0) : (Fm.node o a ks).rng 7 = true := by
  rw [rng_node, if_neg hz, Bool.and_eq_true, List.all_eq_true, decide_eq_true_eq]
  exact ⟨h, h1, h2, h3⟩
theorem map_len0 {α β : Type} {g : α → β} {l : List α} (h : ¬ l.length = 0) : ¬ (l.map g).length = 0 := by rw [List.length_map]; exact h
theorem dual_small : ∀ f : Fm, f.dual.nodes ≤ f.nodes ∧ f.dual.depth ≤ f.depth := by
  intro f
  induction f using Fm.indm with
  | h f ih =>
  rw [f.dual_eq]
  constructor
  · rw [Fm.nodes_eq, f.nodes_eq]
    have := nodesL_le (g := Fm.dual) fun k hk => (ih k hk).1
    simp only [Fm.ks] at this ⊢
    omega
  · rw [Fm.depth_eq, f.depth_eq]
    have := depthL_le (g := Fm.dual) fun k hk => (ih k hk).2
    simp only [Fm.ks] at this ⊢
    omega
theorem dual_rng : ∀ f : Fm, f.rng 7 = true → f.dual.rng 7 = true := by
  intro f
  induction f using Fm.indm with
  | h f ih =>
  intro hr
  by_cases hz : f.ks.length = 0
  · rw [dual_leaf hz]; exact hr
  · obtain ⟨h1, h2, h3, _⟩ := rng_inner hr hz
    rw [dual_inner hz]
    refine rng_mk (map_len0 hz) (fun k hk => ?_) (by omega) (by rw [List.length_map]; omega) h3
    obtain ⟨x, hx, rfl⟩ := List.mem_map.1 hk
    exact ih x hx (rng_mem hr hz x hx)
theorem dual_ok {f : Fm} (h : f.ok = true) : f.dual.ok = true := by
  obtain ⟨h1, h2, h3⟩ := (ok_iff f).1 h
  have := dual_small f
  exact (ok_iff _).2 ⟨by omega, by omega, dual_rng f h3⟩
theorem dual_dual : ∀ f : Fm, f.dual.dual = f := by
  intro f
  induction f using Fm.indm with
  | h f ih =>
  by_cases hz : f.ks.length = 0
  · rw [dual_leaf hz, dual_leaf hz]
  · rw [dual_inner hz, dual_inner (by simp only [Fm.ks]; exact map_len0 hz)]
    have e : (f.ks.map Fm.dual).map Fm.dual = f.ks := by
      rw [List.map_map]
      conv => rhs; rw [← List.map_id f.ks]
      exact List.map_congr_left fun k hk => ih k hk
    simp only [Fm.ks, Fm.a, Fm.o] at e ⊢
    rw [e, List.length_map]
    cases f with
    | node o a ks => simp only [Fm.node.injEq, true_and, and_true]; omega
theorem dual_holds {s : Nat} : ∀ f : Fm, f.rng 7 = true → f.dual.holds s = !f.holds (cpl s) := by
  intro f
  induction f using Fm.indm with
  | h f ih =>
  intro hr
  by_cases hz : f.ks.length = 0
  · obtain ⟨o, ho, ho7, _⟩ := rng_leaf hr hz
    rw [dual_leaf hz, f.holds_eq, f.holds_eq, if_pos hz, if_pos hz, ho, cpl_bit (by simp; omega), Bool.not_not]
  · obtain ⟨h1, h2, h3, _⟩ := rng_inner hr hz
    rw [dual_inner hz, holds_node, f.holds_eq]
    rw [if_neg (map_len0 hz), if_neg hz, List.countP_map]
    have e : f.ks.countP ((fun x => x.holds s) ∘ Fm.dual) = f.ks.countP (fun x => !x.holds (cpl s)) := by
      apply List.countP_congr
      intro k hk
      show Fm.holds s k.dual = true ↔ _
      rw [ih k hk (rng_mem hr hz k hk)]
    rw [e]
    have hlen := List.length_eq_countP_add_countP (p := fun x : Fm => x.holds (cpl s)) (l := f.ks)
    have e2 : f.ks.countP (fun x => !x.holds (cpl s)) = f.ks.countP (fun x => decide ¬ x.holds (cpl s) = true) := by
      apply List.countP_congr
      intro k _
      cases k.holds (cpl s) <;> simp
    rw [e2]
    rw [Bool.eq_iff_iff, decide_eq_true_eq, Bool.not_eq_true', decide_eq_false_iff_not]
    omega
theorem short_small : ∀ f : Fm, f.short.nodes ≤ f.nodes ∧ f.short.depth ≤ f.depth := by
  intro f
  induction f using Fm.indm with
  | h f ih =>
  by_cases h1 : f.ks.length = 1
  · have hx : f.ks[0]? = some (f.ks[0]'(by omega)) := List.getElem?_eq_getElem _
    have hm := List.mem_of_getElem? hx
    have := ih _ hm
    have h2 := nodes_lt hx
    have h3 := depth_lt hx
    rw [short_one h1 hx]
    omega
  · rw [short_else h1]
    constructor
    · rw [Fm.nodes_eq, f.nodes_eq]
      have := nodesL_le (g := Fm.short) fun k hk => (ih k hk).1
      simp only [Fm.ks] at this ⊢
      omega
    · rw [Fm.depth_eq, f.depth_eq]
      have := depthL_le (g := Fm.short) fun k hk => (ih k hk).2
      simp only [Fm.ks] at this ⊢
      omega
theorem short_rng : ∀ f : Fm, f.rng 7 = true → f.short.rng 7 = true := by
  intro f
  induction f using Fm.indm with
  | h f ih =>
  intro hr
  by_cases h1 : f.ks.length = 1
  · have hx : f.ks[0]? = some (f.ks[0]'(by omega)) := List.getElem?_eq_getElem _
    rw [short_one h1 hx]
    exact ih _ (List.mem_of_getElem? hx) (kid_rng hr hx)
  · rw [short_else h1]
    by_cases hz : f.ks.length = 0
    · have : f.ks = [] := List.eq_nil_of_length_eq_zero hz
      rw [this]
      rw [f.rng_eq, if_pos hz] at hr
      rw [Fm.rng_eq]; exact hr
    · obtain ⟨g1, g2, g3, _⟩ := rng_inner hr hz
      refine rng_mk (map_len0 hz) (fun k hk => ?_) g1 (by rw [List.length_map]; omega) g3
      obtain ⟨x, hx, rfl⟩ := List.mem_map.1 hk
      exact ih x hx (rng_mem hr hz x hx)
theorem short_ok {f : Fm} (h : f.ok = true) : f.short.ok = true := by
  obtain ⟨h1, h2, h3⟩ := (ok_iff f).1 h
  have := short_small f
  exact (ok_iff _).2 ⟨by omega, by omega, short_rng f h3⟩
theorem short_holds {s : Nat} : ∀ f : Fm, f.rng 7 = true → f.short.holds s = f.holds s := by
  intro f
  induction f using Fm.indm with
  | h f ih =>
  intro hr
  by_cases h1 : f.ks.length = 1
  · have hx : f.ks[0]? = some (f.ks[0]'(by omega)) := List.getElem?_eq_getElem _
    have hz : ¬ f.ks.length = 0 := by omega
    obtain ⟨g1, g2, g3, _⟩ := rng_inner hr hz
    rw [short_one h1 hx, ih _ (List.mem_of_getElem? hx) (kid_rng hr hx), f.holds_eq, if_neg hz]
    have e : f.ks = [f.ks[0]'(by omega)] := List.ext_getElem (by simp [h1]) fun i hi _ => by
      obtain rfl : i = 0 := by omega
      simp
    generalize f.ks[0]'(by omega) = k at *
    rw [e, List.countP_singleton]
    have : f.a = 1 := by omega
    rw [this]
    cases k.holds s <;> decide
  · rw [short_else h1]
    by_cases hz : f.ks.length = 0
    · have : f.ks = [] := List.eq_nil_of_length_eq_zero hz
      rw [f.holds_eq, if_pos hz, this, Fm.holds_eq]
      rfl
    · rw [holds_node, f.holds_eq]
      rw [if_neg (map_len0 hz), if_neg hz, List.countP_map]
      congr 2
      exact congrArg Nat.cast (List.countP_congr fun k hk => by
        show Fm.holds s k.short = true ↔ _
        rw [ih k hk (rng_mem hr hz k hk)])
theorem short_equal {f : Fm} (h : f.ok = true) : equalB f.short f = true := by
  unfold equalB
  rw [short_ok h, h, msets_congr fun t _ => short_holds f (ok_rng h), decide_eq_true rfl]; rfl
theorem in_holds {f : Fm} (h : f.ok = true) {s : Nat} (_hs : s < 4294967296) : f.holds s = f.msets.any fun m => decide (m &&& cpl s = 0) := by
  rw [holds_iff (ok_rng h), Bool.eq_iff_iff, List.any_eq_true, List.any_eq_true]
  constructor
  · rintro ⟨m, hm, hd⟩
    exact ⟨m, hm, decide_eq_true ((sub_cpl (by have := (msets_lt hm).1; omega)).2 (of_decide_eq_true hd))⟩
  · rintro ⟨m, hm, hd⟩
    exact ⟨m, hm, decide_eq_true ((sub_cpl (by have := (msets_lt hm).1; omega)).1 (of_decide_eq_true hd))⟩
set_option maxHeartbeats 16000000 in
theorem fixed39_true (F : PH) : Pure Try.prog 27 [] F (.bool true) := by
  refine Spec.of0 Try.func27 rfl fun X w0 => ?_
  repeat (first | refine jc rfl rfl ?_ | refine jr rfl ?_ | refine jn ?_ | refine oM rfl rfl ?_ | refine oS (ev_pv rfl) rfl ?_ | refine oX rfl ?_ | refine J_cond_t rfl ?_ | refine J_cond_f rfl ?_ | refine oS (eb rfl) rfl ?_ | (refine oS (ev_cmp_t rfl rfl ?_) rfl ?_; (dsimp only [cmpP] <;> omega)) | (refine oS (ev_cmp_f rfl rfl ?_) rfl ?_; (dsimp only [cmpN] <;> omega)) | (refine oS (ea rfl rfl rfl ?_) rfl ?_; (dsimp only [InK]; first | omega | exact ⟨Int.natCast_nonneg _, by omega⟩)) | (refine oS (ed rfl rfl rfl ?_ ?_ ?_) rfl ?_; (first | omega | exact Int.natCast_nonneg _); (first | omega | exact Int.natCast_nonneg _); (dsimp only [InK]; first | omega | exact ⟨Int.natCast_nonneg _, by omega⟩)) | refine oS (ev_fieldAddr rfl rfl) rfl ?_ | (refine oS (ev_conv rfl rfl rfl (wrap_in ?_)) rfl ?_; (dsimp only [InK]; first | omega | exact ⟨Int.natCast_nonneg _, by omega⟩)) | refine oS (ev_bool_eql rfl rfl rfl) rfl ?_ | refine oS (eg rfl rfl rfl) rfl ?_ | (refine jdq rfl rfl ?_ ?_ ?_; kernel_rfl; kernel_rfl) | (refine oS (ev_build (t := ?_) rfl rfl rfl ?_) rfl ?_; rotate_left; (repeat (first | exact FillF.nil | refine FillF.cons (by constructor) rfl rfl (by repeat constructor) ?_))) | refine oS (ev_ptr_eql_nil rfl rfl rfl) rfl ?_ | refine oS (ev_ptr_neq_nil rfl rfl rfl) rfl ?_ | refine oS (ev_load rfl rfl (Rdb.ofB (n := 0) .here rfl)) rfl ?_ | refine oS (ev_load rfl rfl (Rdb.ofB (n := 0) (.there .here) rfl)) rfl ?_ | refine oS (ev_load rfl rfl (Rdb.ofB (n := 0) (.there (.there .here)) rfl)) rfl ?_)
  refine oE (ev_buildSlice (E := 24) (zs := zFm) (t := leafC 0 ++ leafC 1 ++ leafC 2) rfl rfl rfl rfl rfl rfl (.cons .agg rfl (by repeat constructor) (.cons .agg rfl (by repeat constructor) (.cons .agg rfl (by repeat constructor) .nil)))) rfl ?_
  rintro _ _ _ _ ⟨rfl, b5, rfl, rfl⟩
  refine oPersist fun h5 hA5 hd5 => ?_
  have hc5 := blk_cells hA5 hd5
  have hle5 := PH.le_l F h5
  generalize F.un h5 = F1 at *
  have hrep := fix_rep hc5
  repeat (first | refine jc rfl rfl ?_ | refine jr rfl ?_ | refine jn ?_ | refine oM rfl rfl ?_ | refine oS (ev_pv rfl) rfl ?_ | refine oX rfl ?_ | refine J_cond_t rfl ?_ | refine J_cond_f rfl ?_ | refine oS (eb rfl) rfl ?_ | (refine oS (ev_cmp_t rfl rfl ?_) rfl ?_; (dsimp only [cmpP] <;> omega)) | (refine oS (ev_cmp_f rfl rfl ?_) rfl ?_; (dsimp only [cmpN] <;> omega)) | (refine oS (ea rfl rfl rfl ?_) rfl ?_; (dsimp only [InK]; first | omega | exact ⟨Int.natCast_nonneg _, by omega⟩)) | (refine oS (ed rfl rfl rfl ?_ ?_ ?_) rfl ?_; (first | omega | exact Int.natCast_nonneg _); (first | omega | exact Int.natCast_nonneg _); (dsimp only [InK]; first | omega | exact ⟨Int.natCast_nonneg _, by omega⟩)) | refine oS (ev_fieldAddr rfl rfl) rfl ?_ | (refine oS (ev_conv rfl rfl rfl (wrap_in ?_)) rfl ?_; (dsimp only [InK]; first | omega | exact ⟨Int.natCast_nonneg _, by omega⟩)) | refine oS (ev_bool_eql rfl rfl rfl) rfl ?_ | refine oS (eg rfl rfl rfl) rfl ?_ | (refine jdq rfl rfl ?_ ?_ ?_; kernel_rfl; kernel_rfl) | (refine oS (ev_build (t := ?_) rfl rfl rfl ?_) rfl ?_; rotate_left; (repeat (first | exact FillF.nil | refine FillF.cons (by constructor) rfl rfl (by repeat constructor) ?_))) | refine oS (ev_ptr_eql_nil rfl rfl rfl) rfl ?_ | refine oS (ev_ptr_neq_nil rfl rfl rfl) rfl ?_ | refine oS (ev_load rfl rfl (Rdb.ofB (n := 0) .here rfl)) rfl ?_ | refine oS (ev_load rfl rfl (Rdb.ofB (n := 0) (.there .here) rfl)) rfl ?_ | refine oS (ev_load rfl rfl (Rdb.ofB (n := 0) (.there (.there .here)) rfl)) rfl ?_)
  refine oE (ev_alloc rfl) rfl ?_; rintro _ _ _ _ ⟨rfl, b1, rfl, rfl⟩; refine oN (ev_store rfl rfl .agg rfl rfl (lay_all ?_) ?_ .here) rfl ?_; rfl; rotate_left; rintro _ _ _ _ ⟨rfl, rfl, rfl⟩; rotate_left
  · (repeat (first | exact ones_nil | refine ones_cons rfl ?_))
  refine jn ?_
  refine J_persist fun h1 hA1 hd1 => ?_
  have hc1 := blk_cells hA1 hd1
  have hle1 := PH.le_l F1 h1
  generalize F1.un h1 = F2 at *
  replace hrep := hrep.mono hle1
  replace hc1 : Cells F2 b1 0 (fcells fixF (.slice (some ⟨b5, 0, none⟩) 3 3)) := hc1
  have hn : fixF.nodes ≤ 200 := by decide +kernel
  have hok : fixF.ok = true := by decide +kernel
  repeat (first | refine jc rfl rfl ?_ | refine jr rfl ?_ | refine jn ?_ | refine oM rfl rfl ?_ | refine oS (ev_pv rfl) rfl ?_ | refine oX rfl ?_ | refine J_cond_t rfl ?_ | refine J_cond_f rfl ?_ | refine oS (eb rfl) rfl ?_ | (refine oS (ev_cmp_t rfl rfl ?_) rfl ?_; (dsimp only [cmpP] <;> omega)) | (refine oS (ev_cmp_f rfl rfl ?_) rfl ?_; (dsimp only [cmpN] <;> omega)) | (refine oS (ea rfl rfl rfl ?_) rfl ?_; (dsimp only [InK]; first | omega | exact ⟨Int.natCast_nonneg _, by omega⟩)) | (refine oS (ed rfl rfl rfl ?_ ?_ ?_) rfl ?_; (first | omega | exact Int.natCast_nonneg _); (first | omega | exact Int.natCast_nonneg _); (dsimp only [InK]; first | omega | exact ⟨Int.natCast_nonneg _, by omega⟩)) | refine oS (ev_fieldAddr rfl rfl) rfl ?_ | (refine oS (ev_conv rfl rfl rfl (wrap_in ?_)) rfl ?_; (dsimp only [InK]; first | omega | exact ⟨Int.natCast_nonneg _, by omega⟩)) | refine oS (ev_bool_eql rfl rfl rfl) rfl ?_ | refine oS (eg rfl rfl rfl) rfl ?_ | (refine jdq rfl rfl ?_ ?_ ?_; kernel_rfl; kernel_rfl) | (refine oS (ev_build (t := ?_) rfl rfl rfl ?_) rfl ?_; rotate_left; (repeat (first | exact FillF.nil | refine FillF.cons (by constructor) rfl rfl (by repeat constructor) ?_))) | refine oS (ev_ptr_eql_nil rfl rfl rfl) rfl ?_ | refine oS (ev_ptr_neq_nil rfl rfl rfl) rfl ?_ | refine oS (ev_load rfl rfl (Rdb.ofB (n := 0) .here rfl)) rfl ?_ | refine oS (ev_load rfl rfl (Rdb.ofB (n := 0) (.there .here) rfl)) rfl ?_ | refine oS (ev_load rfl rfl (Rdb.ofB (n := 0) (.there (.there .here)) rfl)) rfl ?_)
  refine oS (ev_load_agg rfl rfl (Rdb.ofF hc1) rfl) rfl ?_
  refine oC (Hc := []) (Hr := X) (sets_spec fixF _ F2 hrep hn) Try.call34 rfl rfl (fun _ s => s) ?_
  rintro v F3 _ hF3 ⟨rfl, hv⟩
  rw [show fixF.setsOf = [3, 5, 6] from by decide +kernel] at hv
  have hv' := hv
  obtain ⟨ax, cx, rfl, _⟩ := hv.form
  obtain ⟨b3, o3, rfl, g0⟩ := hv'.at (i := 0) (x := 3) rfl
  obtain ⟨_, _, e1, g1⟩ := hv'.at (i := 1) (x := 5) rfl
  cases e1
  obtain ⟨_, _, e2, g2⟩ := hv'.at (i := 2) (x := 6) rfl
  cases e2
  replace hrep := hrep.mono hF3
  replace hc1 := hc1.mono hF3
  repeat (first | refine jc rfl rfl ?_ | refine jr rfl ?_ | refine jn ?_ | refine oM rfl rfl ?_ | refine oS (ev_pv rfl) rfl ?_ | refine oX rfl ?_ | refine J_cond_t rfl ?_ | refine J_cond_f rfl ?_ | refine oS (eb rfl) rfl ?_ | (refine oS (ev_cmp_t rfl rfl ?_) rfl ?_; (dsimp only [cmpP] <;> omega)) | (refine oS (ev_cmp_f rfl rfl ?_) rfl ?_; (dsimp only [cmpN] <;> omega)) | (refine oS (ea rfl rfl rfl ?_) rfl ?_; (dsimp only [InK]; first | omega | exact ⟨Int.natCast_nonneg _, by omega⟩)) | (refine oS (ed rfl rfl rfl ?_ ?_ ?_) rfl ?_; (first | omega | exact Int.natCast_nonneg _); (first | omega | exact Int.natCast_nonneg _); (dsimp only [InK]; first | omega | exact ⟨Int.natCast_nonneg _, by omega⟩)) | refine oS (ev_fieldAddr rfl rfl) rfl ?_ | (refine oS (ev_conv rfl rfl rfl (wrap_in ?_)) rfl ?_; (dsimp only [InK]; first | omega | exact ⟨Int.natCast_nonneg _, by omega⟩)) | refine oS (ev_bool_eql rfl rfl rfl) rfl ?_ | refine oS (eg rfl rfl rfl) rfl ?_ | (refine jdq rfl rfl ?_ ?_ ?_; kernel_rfl; kernel_rfl) | (refine oS (ev_build (t := ?_) rfl rfl rfl ?_) rfl ?_; rotate_left; (repeat (first | exact FillF.nil | refine FillF.cons (by constructor) rfl rfl (by repeat constructor) ?_))) | refine oS (ev_ptr_eql_nil rfl rfl rfl) rfl ?_ | refine oS (ev_ptr_neq_nil rfl rfl rfl) rfl ?_ | refine oS (ev_load rfl rfl (Rdb.ofB (n := 0) .here rfl)) rfl ?_ | refine oS (ev_load rfl rfl (Rdb.ofB (n := 0) (.there .here) rfl)) rfl ?_ | refine oS (ev_load rfl rfl (Rdb.ofB (n := 0) (.there (.there .here)) rfl)) rfl ?_)
  refine ja F3 [] ?_ ?_ ?_; kernel_rfl
  · exact fun w s => s.bare
  (first | refine aT 0 rfl (ev_pv rfl) rfl rfl ?_ ?_ ?_ ?_ | refine aT 0 rfl (eb rfl) rfl rfl ?_ ?_ ?_ ?_ | refine aT 0 rfl (ev_fieldAddr rfl rfl) rfl rfl ?_ ?_ ?_ ?_ | refine aT 0 rfl (ev_cmp_t rfl rfl (by (dsimp only [cmpP] <;> omega))) rfl rfl ?_ ?_ ?_ ?_ | refine aT 0 rfl (ev_cmp_f rfl rfl (by (dsimp only [cmpN] <;> omega))) rfl rfl ?_ ?_ ?_ ?_ | refine aT 0 rfl (ea rfl rfl rfl (by (dsimp only [InK]; first | omega | exact ⟨Int.natCast_nonneg _, by omega⟩))) rfl rfl ?_ ?_ ?_ ?_ | refine aT 0 rfl (ev_bool_eql rfl rfl rfl) rfl rfl ?_ ?_ ?_ ?_); kernel_rfl; kernel_rfl; kernel_rfl
  (first | refine aT 1 rfl (ev_pv rfl) rfl rfl ?_ ?_ ?_ ?_ | refine aT 1 rfl (eb rfl) rfl rfl ?_ ?_ ?_ ?_ | refine aT 1 rfl (ev_fieldAddr rfl rfl) rfl rfl ?_ ?_ ?_ ?_ | refine aT 1 rfl (ev_cmp_t rfl rfl (by (dsimp only [cmpP] <;> omega))) rfl rfl ?_ ?_ ?_ ?_ | refine aT 1 rfl (ev_cmp_f rfl rfl (by (dsimp only [cmpN] <;> omega))) rfl rfl ?_ ?_ ?_ ?_ | refine aT 1 rfl (ea rfl rfl rfl (by (dsimp only [InK]; first | omega | exact ⟨Int.natCast_nonneg _, by omega⟩))) rfl rfl ?_ ?_ ?_ ?_ | refine aT 1 rfl (ev_bool_eql rfl rfl rfl) rfl rfl ?_ ?_ ?_ ?_); kernel_rfl; kernel_rfl; kernel_rfl
  refine aT 2 rfl (ev_cmp_t rfl rfl (show cmpP .eql _ _ from rfl)) rfl rfl ?_ ?_ ?_ ?_; kernel_rfl; kernel_rfl; kernel_rfl
  (first | refine aT 3 rfl (ev_pv rfl) rfl rfl ?_ ?_ ?_ ?_ | refine aT 3 rfl (eb rfl) rfl rfl ?_ ?_ ?_ ?_ | refine aT 3 rfl (ev_fieldAddr rfl rfl) rfl rfl ?_ ?_ ?_ ?_ | refine aT 3 rfl (ev_cmp_t rfl rfl (by (dsimp only [cmpP] <;> omega))) rfl rfl ?_ ?_ ?_ ?_ | refine aT 3 rfl (ev_cmp_f rfl rfl (by (dsimp only [cmpN] <;> omega))) rfl rfl ?_ ?_ ?_ ?_ | refine aT 3 rfl (ea rfl rfl rfl (by (dsimp only [InK]; first | omega | exact ⟨Int.natCast_nonneg _, by omega⟩))) rfl rfl ?_ ?_ ?_ ?_ | refine aT 3 rfl (ev_bool_eql rfl rfl rfl) rfl rfl ?_ ?_ ?_ ?_); kernel_rfl; kernel_rfl; kernel_rfl
  (first | refine aT 4 rfl (ev_pv rfl) rfl rfl ?_ ?_ ?_ ?_ | refine aT 4 rfl (eb rfl) rfl rfl ?_ ?_ ?_ ?_ | refine aT 4 rfl (ev_fieldAddr rfl rfl) rfl rfl ?_ ?_ ?_ ?_ | refine aT 4 rfl (ev_cmp_t rfl rfl (by (dsimp only [cmpP] <;> omega))) rfl rfl ?_ ?_ ?_ ?_ | refine aT 4 rfl (ev_cmp_f rfl rfl (by (dsimp only [cmpN] <;> omega))) rfl rfl ?_ ?_ ?_ ?_ | refine aT 4 rfl (ea rfl rfl rfl (by (dsimp only [InK]; first | omega | exact ⟨Int.natCast_nonneg _, by omega⟩))) rfl rfl ?_ ?_ ?_ ?_ | refine aT 4 rfl (ev_bool_eql rfl rfl rfl) rfl rfl ?_ ?_ ?_ ?_); kernel_rfl; kernel_rfl; kernel_rfl
  refine aT 5 rfl (ev_indexAddr (i := 0) rfl rfl rfl (by decide)) rfl rfl ?_ ?_ ?_ ?_; kernel_rfl; kernel_rfl; kernel_rfl
  refine aT 6 rfl (ev_load rfl rfl (Rdb.ofF g0)) rfl rfl ?_ ?_ ?_ ?_; kernel_rfl; kernel_rfl; kernel_rfl
  (first | refine aT 7 rfl (ev_pv rfl) rfl rfl ?_ ?_ ?_ ?_ | refine aT 7 rfl (eb rfl) rfl rfl ?_ ?_ ?_ ?_ | refine aT 7 rfl (ev_fieldAddr rfl rfl) rfl rfl ?_ ?_ ?_ ?_ | refine aT 7 rfl (ev_cmp_t rfl rfl (by (dsimp only [cmpP] <;> omega))) rfl rfl ?_ ?_ ?_ ?_ | refine aT 7 rfl (ev_cmp_f rfl rfl (by (dsimp only [cmpN] <;> omega))) rfl rfl ?_ ?_ ?_ ?_ | refine aT 7 rfl (ea rfl rfl rfl (by (dsimp only [InK]; first | omega | exact ⟨Int.natCast_nonneg _, by omega⟩))) rfl rfl ?_ ?_ ?_ ?_ | refine aT 7 rfl (ev_bool_eql rfl rfl rfl) rfl rfl ?_ ?_ ?_ ?_); kernel_rfl; kernel_rfl; kernel_rfl
  (first | refine aT 8 rfl (ev_pv rfl) rfl rfl ?_ ?_ ?_ ?_ | refine aT 8 rfl (eb rfl) rfl rfl ?_ ?_ ?_ ?_ | refine aT 8 rfl (ev_fieldAddr rfl rfl) rfl rfl ?_ ?_ ?_ ?_ | refine aT 8 rfl (ev_cmp_t rfl rfl (by (dsimp only [cmpP] <;> omega))) rfl rfl ?_ ?_ ?_ ?_ | refine aT 8 rfl (ev_cmp_f rfl rfl (by (dsimp only [cmpN] <;> omega))) rfl rfl ?_ ?_ ?_ ?_ | refine aT 8 rfl (ea rfl rfl rfl (by (dsimp only [InK]; first | omega | exact ⟨Int.natCast_nonneg _, by omega⟩))) rfl rfl ?_ ?_ ?_ ?_ | refine aT 8 rfl (ev_bool_eql rfl rfl rfl) rfl rfl ?_ ?_ ?_ ?_); kernel_rfl; kernel_rfl; kernel_rfl
  (first | refine aT 9 rfl (ev_pv rfl) rfl rfl ?_ ?_ ?_ ?_ | refine aT 9 rfl (eb rfl) rfl rfl ?_ ?_ ?_ ?_ | refine aT 9 rfl (ev_fieldAddr rfl rfl) rfl rfl ?_ ?_ ?_ ?_ | refine aT 9 rfl (ev_cmp_t rfl rfl (by (dsimp only [cmpP] <;> omega))) rfl rfl ?_ ?_ ?_ ?_ | refine aT 9 rfl (ev_cmp_f rfl rfl (by (dsimp only [cmpN] <;> omega))) rfl rfl ?_ ?_ ?_ ?_ | refine aT 9 rfl (ea rfl rfl rfl (by (dsimp only [InK]; first | omega | exact ⟨Int.natCast_nonneg _, by omega⟩))) rfl rfl ?_ ?_ ?_ ?_ | refine aT 9 rfl (ev_bool_eql rfl rfl rfl) rfl rfl ?_ ?_ ?_ ?_); kernel_rfl; kernel_rfl; kernel_rfl
  (first | refine aT 10 rfl (ev_pv rfl) rfl rfl ?_ ?_ ?_ ?_ | refine aT 10 rfl (eb rfl) rfl rfl ?_ ?_ ?_ ?_ | refine aT 10 rfl (ev_fieldAddr rfl rfl) rfl rfl ?_ ?_ ?_ ?_ | refine aT 10 rfl (ev_cmp_t rfl rfl (by (dsimp only [cmpP] <;> omega))) rfl rfl ?_ ?_ ?_ ?_ | refine aT 10 rfl (ev_cmp_f rfl rfl (by (dsimp only [cmpN] <;> omega))) rfl rfl ?_ ?_ ?_ ?_ | refine aT 10 rfl (ea rfl rfl rfl (by (dsimp only [InK]; first | omega | exact ⟨Int.natCast_nonneg _, by omega⟩))) rfl rfl ?_ ?_ ?_ ?_ | refine aT 10 rfl (ev_bool_eql rfl rfl rfl) rfl rfl ?_ ?_ ?_ ?_); kernel_rfl; kernel_rfl; kernel_rfl
  refine aT 11 rfl (ev_indexAddr (i := 1) rfl rfl rfl (by decide)) rfl rfl ?_ ?_ ?_ ?_; kernel_rfl; kernel_rfl; kernel_rfl
  refine aT 12 rfl (ev_load rfl rfl (Rdb.ofF g1)) rfl rfl ?_ ?_ ?_ ?_; kernel_rfl; kernel_rfl; kernel_rfl
  (first | refine aT 13 rfl (ev_pv rfl) rfl rfl ?_ ?_ ?_ ?_ | refine aT 13 rfl (eb rfl) rfl rfl ?_ ?_ ?_ ?_ | refine aT 13 rfl (ev_fieldAddr rfl rfl) rfl rfl ?_ ?_ ?_ ?_ | refine aT 13 rfl (ev_cmp_t rfl rfl (by (dsimp only [cmpP] <;> omega))) rfl rfl ?_ ?_ ?_ ?_ | refine aT 13 rfl (ev_cmp_f rfl rfl (by (dsimp only [cmpN] <;> omega))) rfl rfl ?_ ?_ ?_ ?_ | refine aT 13 rfl (ea rfl rfl rfl (by (dsimp only [InK]; first | omega | exact ⟨Int.natCast_nonneg _, by omega⟩))) rfl rfl ?_ ?_ ?_ ?_ | refine aT 13 rfl (ev_bool_eql rfl rfl rfl) rfl rfl ?_ ?_ ?_ ?_); kernel_rfl; kernel_rfl; kernel_rfl
  (first | refine aT 14 rfl (ev_pv rfl) rfl rfl ?_ ?_ ?_ ?_ | refine aT 14 rfl (eb rfl) rfl rfl ?_ ?_ ?_ ?_ | refine aT 14 rfl (ev_fieldAddr rfl rfl) rfl rfl ?_ ?_ ?_ ?_ | refine aT 14 rfl (ev_cmp_t rfl rfl (by (dsimp only [cmpP] <;> omega))) rfl rfl ?_ ?_ ?_ ?_ | refine aT 14 rfl (ev_cmp_f rfl rfl (by (dsimp only [cmpN] <;> omega))) rfl rfl ?_ ?_ ?_ ?_ | refine aT 14 rfl (ea rfl rfl rfl (by (dsimp only [InK]; first | omega | exact ⟨Int.natCast_nonneg _, by omega⟩))) rfl rfl ?_ ?_ ?_ ?_ | refine aT 14 rfl (ev_bool_eql rfl rfl rfl) rfl rfl ?_ ?_ ?_ ?_); kernel_rfl; kernel_rfl; kernel_rfl
  (first | refine aT 15 rfl (ev_pv rfl) rfl rfl ?_ ?_ ?_ ?_ | refine aT 15 rfl (eb rfl) rfl rfl ?_ ?_ ?_ ?_ | refine aT 15 rfl (ev_fieldAddr rfl rfl) rfl rfl ?_ ?_ ?_ ?_ | refine aT 15 rfl (ev_cmp_t rfl rfl (by (dsimp only [cmpP] <;> omega))) rfl rfl ?_ ?_ ?_ ?_ | refine aT 15 rfl (ev_cmp_f rfl rfl (by (dsimp only [cmpN] <;> omega))) rfl rfl ?_ ?_ ?_ ?_ | refine aT 15 rfl (ea rfl rfl rfl (by (dsimp only [InK]; first | omega | exact ⟨Int.natCast_nonneg _, by omega⟩))) rfl rfl ?_ ?_ ?_ ?_ | refine aT 15 rfl (ev_bool_eql rfl rfl rfl) rfl rfl ?_ ?_ ?_ ?_); kernel_rfl; kernel_rfl; kernel_rfl
  (first | refine aT 16 rfl (ev_pv rfl) rfl rfl ?_ ?_ ?_ ?_ | refine aT 16 rfl (eb rfl) rfl rfl ?_ ?_ ?_ ?_ | refine aT 16 rfl (ev_fieldAddr rfl rfl) rfl rfl ?_ ?_ ?_ ?_ | refine aT 16 rfl (ev_cmp_t rfl rfl (by (dsimp only [cmpP] <;> omega))) rfl rfl ?_ ?_ ?_ ?_ | refine aT 16 rfl (ev_cmp_f rfl rfl (by (dsimp only [cmpN] <;> omega))) rfl rfl ?_ ?_ ?_ ?_ | refine aT 16 rfl (ea rfl rfl rfl (by (dsimp only [InK]; first | omega | exact ⟨Int.natCast_nonneg _, by omega⟩))) rfl rfl ?_ ?_ ?_ ?_ | refine aT 16 rfl (ev_bool_eql rfl rfl rfl) rfl rfl ?_ ?_ ?_ ?_); kernel_rfl; kernel_rfl; kernel_rfl
  refine aT 17 rfl (ev_indexAddr (i := 2) rfl rfl rfl (by decide)) rfl rfl ?_ ?_ ?_ ?_; kernel_rfl; kernel_rfl; kernel_rfl
  refine aT 18 rfl (ev_load rfl rfl (Rdb.ofF g2)) rfl rfl ?_ ?_ ?_ ?_; kernel_rfl; kernel_rfl; kernel_rfl
  (first | refine aT 19 rfl (ev_pv rfl) rfl rfl ?_ ?_ ?_ ?_ | refine aT 19 rfl (eb rfl) rfl rfl ?_ ?_ ?_ ?_ | refine aT 19 rfl (ev_fieldAddr rfl rfl) rfl rfl ?_ ?_ ?_ ?_ | refine aT 19 rfl (ev_cmp_t rfl rfl (by (dsimp only [cmpP] <;> omega))) rfl rfl ?_ ?_ ?_ ?_ | refine aT 19 rfl (ev_cmp_f rfl rfl (by (dsimp only [cmpN] <;> omega))) rfl rfl ?_ ?_ ?_ ?_ | refine aT 19 rfl (ea rfl rfl rfl (by (dsimp only [InK]; first | omega | exact ⟨Int.natCast_nonneg _, by omega⟩))) rfl rfl ?_ ?_ ?_ ?_ | refine aT 19 rfl (ev_bool_eql rfl rfl rfl) rfl rfl ?_ ?_ ?_ ?_); kernel_rfl; kernel_rfl; kernel_rfl
  (first | refine aT 20 rfl (ev_pv rfl) rfl rfl ?_ ?_ ?_ ?_ | refine aT 20 rfl (eb rfl) rfl rfl ?_ ?_ ?_ ?_ | refine aT 20 rfl (ev_fieldAddr rfl rfl) rfl rfl ?_ ?_ ?_ ?_ | refine aT 20 rfl (ev_cmp_t rfl rfl (by (dsimp only [cmpP] <;> omega))) rfl rfl ?_ ?_ ?_ ?_ | refine aT 20 rfl (ev_cmp_f rfl rfl (by (dsimp only [cmpN] <;> omega))) rfl rfl ?_ ?_ ?_ ?_ | refine aT 20 rfl (ea rfl rfl rfl (by (dsimp only [InK]; first | omega | exact ⟨Int.natCast_nonneg _, by omega⟩))) rfl rfl ?_ ?_ ?_ ?_ | refine aT 20 rfl (ev_bool_eql rfl rfl rfl) rfl rfl ?_ ?_ ?_ ?_); kernel_rfl; kernel_rfl; kernel_rfl
  (first | refine aT 21 rfl (ev_pv rfl) rfl rfl ?_ ?_ ?_ ?_ | refine aT 21 rfl (eb rfl) rfl rfl ?_ ?_ ?_ ?_ | refine aT 21 rfl (ev_fieldAddr rfl rfl) rfl rfl ?_ ?_ ?_ ?_ | refine aT 21 rfl (ev_cmp_t rfl rfl (by (dsimp only [cmpP] <;> omega))) rfl rfl ?_ ?_ ?_ ?_ | refine aT 21 rfl (ev_cmp_f rfl rfl (by (dsimp only [cmpN] <;> omega))) rfl rfl ?_ ?_ ?_ ?_ | refine aT 21 rfl (ea rfl rfl rfl (by (dsimp only [InK]; first | omega | exact ⟨Int.natCast_nonneg _, by omega⟩))) rfl rfl ?_ ?_ ?_ ?_ | refine aT 21 rfl (ev_bool_eql rfl rfl rfl) rfl rfl ?_ ?_ ?_ ?_); kernel_rfl; kernel_rfl; kernel_rfl
  refine aT 22 rfl (ev_load_agg rfl rfl (Rdb.ofF hc1) rfl) rfl rfl ?_ ?_ ?_ ?_; kernel_rfl; kernel_rfl; kernel_rfl
  have s1 := need_spec fixF _ F3 hrep hn
  rw [show fixF.need = 0 from by decide +kernel] at s1
  have s2 := idle_spec fixF _ F3 hrep hn
  rw [show fixF.idle = 0 from by decide +kernel] at s2
  refine aB (i := 23) (by kernel_rfl) (aP rfl (s1) Try.call35 rfl rfl rfl (fun _ s => s.bare) ?_)
  (first | refine aT 24 rfl (ev_pv rfl) rfl rfl ?_ ?_ ?_ ?_ | refine aT 24 rfl (eb rfl) rfl rfl ?_ ?_ ?_ ?_ | refine aT 24 rfl (ev_fieldAddr rfl rfl) rfl rfl ?_ ?_ ?_ ?_ | refine aT 24 rfl (ev_cmp_t rfl rfl (by (dsimp only [cmpP] <;> omega))) rfl rfl ?_ ?_ ?_ ?_ | refine aT 24 rfl (ev_cmp_f rfl rfl (by (dsimp only [cmpN] <;> omega))) rfl rfl ?_ ?_ ?_ ?_ | refine aT 24 rfl (ea rfl rfl rfl (by (dsimp only [InK]; first | omega | exact ⟨Int.natCast_nonneg _, by omega⟩))) rfl rfl ?_ ?_ ?_ ?_ | refine aT 24 rfl (ev_bool_eql rfl rfl rfl) rfl rfl ?_ ?_ ?_ ?_); kernel_rfl; kernel_rfl; kernel_rfl
  (first | refine aT 25 rfl (ev_pv rfl) rfl rfl ?_ ?_ ?_ ?_ | refine aT 25 rfl (eb rfl) rfl rfl ?_ ?_ ?_ ?_ | refine aT 25 rfl (ev_fieldAddr rfl rfl) rfl rfl ?_ ?_ ?_ ?_ | refine aT 25 rfl (ev_cmp_t rfl rfl (by (dsimp only [cmpP] <;> omega))) rfl rfl ?_ ?_ ?_ ?_ | refine aT 25 rfl (ev_cmp_f rfl rfl (by (dsimp only [cmpN] <;> omega))) rfl rfl ?_ ?_ ?_ ?_ | refine aT 25 rfl (ea rfl rfl rfl (by (dsimp only [InK]; first | omega | exact ⟨Int.natCast_nonneg _, by omega⟩))) rfl rfl ?_ ?_ ?_ ?_ | refine aT 25 rfl (ev_bool_eql rfl rfl rfl) rfl rfl ?_ ?_ ?_ ?_); kernel_rfl; kernel_rfl; kernel_rfl
  (first | refine aT 26 rfl (ev_pv rfl) rfl rfl ?_ ?_ ?_ ?_ | refine aT 26 rfl (eb rfl) rfl rfl ?_ ?_ ?_ ?_ | refine aT 26 rfl (ev_fieldAddr rfl rfl) rfl rfl ?_ ?_ ?_ ?_ | refine aT 26 rfl (ev_cmp_t rfl rfl (by (dsimp only [cmpP] <;> omega))) rfl rfl ?_ ?_ ?_ ?_ | refine aT 26 rfl (ev_cmp_f rfl rfl (by (dsimp only [cmpN] <;> omega))) rfl rfl ?_ ?_ ?_ ?_ | refine aT 26 rfl (ea rfl rfl rfl (by (dsimp only [InK]; first | omega | exact ⟨Int.natCast_nonneg _, by omega⟩))) rfl rfl ?_ ?_ ?_ ?_ | refine aT 26 rfl (ev_bool_eql rfl rfl rfl) rfl rfl ?_ ?_ ?_ ?_); kernel_rfl; kernel_rfl; kernel_rfl
  refine aT 27 rfl (ev_load_agg rfl rfl (Rdb.ofF hc1) rfl) rfl rfl ?_ ?_ ?_ ?_; kernel_rfl; kernel_rfl; kernel_rfl
  refine aB (i := 28) (by kernel_rfl) (aP rfl (s2) Try.call36 rfl rfl rfl (fun _ s => s.bare) ?_)
  (first | refine aT 29 rfl (ev_pv rfl) rfl rfl ?_ ?_ ?_ ?_ | refine aT 29 rfl (eb rfl) rfl rfl ?_ ?_ ?_ ?_ | refine aT 29 rfl (ev_fieldAddr rfl rfl) rfl rfl ?_ ?_ ?_ ?_ | refine aT 29 rfl (ev_cmp_t rfl rfl (by (dsimp only [cmpP] <;> omega))) rfl rfl ?_ ?_ ?_ ?_ | refine aT 29 rfl (ev_cmp_f rfl rfl (by (dsimp only [cmpN] <;> omega))) rfl rfl ?_ ?_ ?_ ?_ | refine aT 29 rfl (ea rfl rfl rfl (by (dsimp only [InK]; first | omega | exact ⟨Int.natCast_nonneg _, by omega⟩))) rfl rfl ?_ ?_ ?_ ?_ | refine aT 29 rfl (ev_bool_eql rfl rfl rfl) rfl rfl ?_ ?_ ?_ ?_); kernel_rfl; kernel_rfl; kernel_rfl
  (first | refine aT 30 rfl (ev_pv rfl) rfl rfl ?_ ?_ ?_ ?_ | refine aT 30 rfl (eb rfl) rfl rfl ?_ ?_ ?_ ?_ | refine aT 30 rfl (ev_fieldAddr rfl rfl) rfl rfl ?_ ?_ ?_ ?_ | refine aT 30 rfl (ev_cmp_t rfl rfl (by (dsimp only [cmpP] <;> omega))) rfl rfl ?_ ?_ ?_ ?_ | refine aT 30 rfl (ev_cmp_f rfl rfl (by (dsimp only [cmpN] <;> omega))) rfl rfl ?_ ?_ ?_ ?_ | refine aT 30 rfl (ea rfl rfl rfl (by (dsimp only [InK]; first | omega | exact ⟨Int.natCast_nonneg _, by omega⟩))) rfl rfl ?_ ?_ ?_ ?_ | refine aT 30 rfl (ev_bool_eql rfl rfl rfl) rfl rfl ?_ ?_ ?_ ?_); kernel_rfl; kernel_rfl; kernel_rfl
  (first | refine aT 31 rfl (ev_pv rfl) rfl rfl ?_ ?_ ?_ ?_ | refine aT 31 rfl (eb rfl) rfl rfl ?_ ?_ ?_ ?_ | refine aT 31 rfl (ev_fieldAddr rfl rfl) rfl rfl ?_ ?_ ?_ ?_ | refine aT 31 rfl (ev_cmp_t rfl rfl (by (dsimp only [cmpP] <;> omega))) rfl rfl ?_ ?_ ?_ ?_ | refine aT 31 rfl (ev_cmp_f rfl rfl (by (dsimp only [cmpN] <;> omega))) rfl rfl ?_ ?_ ?_ ?_ | refine aT 31 rfl (ea rfl rfl rfl (by (dsimp only [InK]; first | omega | exact ⟨Int.natCast_nonneg _, by omega⟩))) rfl rfl ?_ ?_ ?_ ?_ | refine aT 31 rfl (ev_bool_eql rfl rfl rfl) rfl rfl ?_ ?_ ?_ ?_); kernel_rfl; kernel_rfl; kernel_rfl
  refine aT 32 rfl (ev_load_agg rfl rfl (Rdb.ofF hc1) rfl) rfl rfl ?_ ?_ ?_ ?_; kernel_rfl; kernel_rfl; kernel_rfl
  refine aT 33 rfl (ev_load_agg rfl rfl (Rdb.ofF hc1) rfl) rfl rfl ?_ ?_ ?_ ?_; kernel_rfl; kernel_rfl; kernel_rfl
  refine aB (i := 34) (by kernel_rfl) (aC (Hc := []) (Hr := X) rfl (Dual_spec fixF _ F3 hrep hn) Try.call32 rfl rfl rfl (fun _ s => s) (fun _ _ _ hF _ w s => (s.mono hF).bare) ?_)
  rintro _ F4 _ hF4 ⟨rfl, co, rfl, hco⟩
  rw [hok, if_pos rfl] at hco
  refine aF hF4 ?_
  have s3 := equal_spec fixF fixF.dual _ _ F4 (hrep.mono hF4) hco hn (Nat.le_trans (dual_small fixF).1 hn)
  rw [show equalB fixF fixF.dual = true from by decide +kernel] at s3
  have s4 := implies_spec fixF fixF _ _ F4 (hrep.mono hF4) (hrep.mono hF4) hn hn
  rw [show implB fixF fixF = true from by decide +kernel] at s4
  refine aB (i := 35) (by kernel_rfl) (aP rfl (s3) Try.call31 rfl rfl rfl (fun _ s => s.bare) ?_)
  (first | refine aT 36 rfl (ev_pv rfl) rfl rfl ?_ ?_ ?_ ?_ | refine aT 36 rfl (eb rfl) rfl rfl ?_ ?_ ?_ ?_ | refine aT 36 rfl (ev_fieldAddr rfl rfl) rfl rfl ?_ ?_ ?_ ?_ | refine aT 36 rfl (ev_cmp_t rfl rfl (by (dsimp only [cmpP] <;> omega))) rfl rfl ?_ ?_ ?_ ?_ | refine aT 36 rfl (ev_cmp_f rfl rfl (by (dsimp only [cmpN] <;> omega))) rfl rfl ?_ ?_ ?_ ?_ | refine aT 36 rfl (ea rfl rfl rfl (by (dsimp only [InK]; first | omega | exact ⟨Int.natCast_nonneg _, by omega⟩))) rfl rfl ?_ ?_ ?_ ?_ | refine aT 36 rfl (ev_bool_eql rfl rfl rfl) rfl rfl ?_ ?_ ?_ ?_); kernel_rfl; kernel_rfl; kernel_rfl
  (first | refine aT 37 rfl (ev_pv rfl) rfl rfl ?_ ?_ ?_ ?_ | refine aT 37 rfl (eb rfl) rfl rfl ?_ ?_ ?_ ?_ | refine aT 37 rfl (ev_fieldAddr rfl rfl) rfl rfl ?_ ?_ ?_ ?_ | refine aT 37 rfl (ev_cmp_t rfl rfl (by (dsimp only [cmpP] <;> omega))) rfl rfl ?_ ?_ ?_ ?_ | refine aT 37 rfl (ev_cmp_f rfl rfl (by (dsimp only [cmpN] <;> omega))) rfl rfl ?_ ?_ ?_ ?_ | refine aT 37 rfl (ea rfl rfl rfl (by (dsimp only [InK]; first | omega | exact ⟨Int.natCast_nonneg _, by omega⟩))) rfl rfl ?_ ?_ ?_ ?_ | refine aT 37 rfl (ev_bool_eql rfl rfl rfl) rfl rfl ?_ ?_ ?_ ?_); kernel_rfl; kernel_rfl; kernel_rfl
  refine aT 38 rfl (ev_load_agg rfl rfl (Rdb.ofF (hc1.mono hF4)) rfl) rfl rfl ?_ ?_ ?_ ?_; kernel_rfl; kernel_rfl; kernel_rfl
  refine aT 39 rfl (ev_load_agg rfl rfl (Rdb.ofF (hc1.mono hF4)) rfl) rfl rfl ?_ ?_ ?_ ?_; kernel_rfl; kernel_rfl; kernel_rfl
  refine aB (i := 40) (by kernel_rfl) (aP rfl (s4) Try.call30 rfl rfl rfl (fun _ s => s.bare) ?_)
  (first | refine aT 41 rfl (ev_pv rfl) rfl rfl ?_ ?_ ?_ ?_ | refine aT 41 rfl (eb rfl) rfl rfl ?_ ?_ ?_ ?_ | refine aT 41 rfl (ev_fieldAddr rfl rfl) rfl rfl ?_ ?_ ?_ ?_ | refine aT 41 rfl (ev_cmp_t rfl rfl (by (dsimp only [cmpP] <;> omega))) rfl rfl ?_ ?_ ?_ ?_ | refine aT 41 rfl (ev_cmp_f rfl rfl (by (dsimp only [cmpN] <;> omega))) rfl rfl ?_ ?_ ?_ ?_ | refine aT 41 rfl (ea rfl rfl rfl (by (dsimp only [InK]; first | omega | exact ⟨Int.natCast_nonneg _, by omega⟩))) rfl rfl ?_ ?_ ?_ ?_ | refine aT 41 rfl (ev_bool_eql rfl rfl rfl) rfl rfl ?_ ?_ ?_ ?_); kernel_rfl; kernel_rfl; kernel_rfl
  (first | refine aT 42 rfl (ev_pv rfl) rfl rfl ?_ ?_ ?_ ?_ | refine aT 42 rfl (eb rfl) rfl rfl ?_ ?_ ?_ ?_ | refine aT 42 rfl (ev_fieldAddr rfl rfl) rfl rfl ?_ ?_ ?_ ?_ | refine aT 42 rfl (ev_cmp_t rfl rfl (by (dsimp only [cmpP] <;> omega))) rfl rfl ?_ ?_ ?_ ?_ | refine aT 42 rfl (ev_cmp_f rfl rfl (by (dsimp only [cmpN] <;> omega))) rfl rfl ?_ ?_ ?_ ?_ | refine aT 42 rfl (ea rfl rfl rfl (by (dsimp only [InK]; first | omega | exact ⟨Int.natCast_nonneg _, by omega⟩))) rfl rfl ?_ ?_ ?_ ?_ | refine aT 42 rfl (ev_bool_eql rfl rfl rfl) rfl rfl ?_ ?_ ?_ ?_); kernel_rfl; kernel_rfl; kernel_rfl
  refine aD (by kernel_rfl) ?_
  repeat (first | refine jc rfl rfl ?_ | refine jr rfl ?_ | refine jn ?_ | refine oM rfl rfl ?_ | refine oS (ev_pv rfl) rfl ?_ | refine oX rfl ?_ | refine J_cond_t rfl ?_ | refine J_cond_f rfl ?_ | refine oS (eb rfl) rfl ?_ | (refine oS (ev_cmp_t rfl rfl ?_) rfl ?_; (dsimp only [cmpP] <;> omega)) | (refine oS (ev_cmp_f rfl rfl ?_) rfl ?_; (dsimp only [cmpN] <;> omega)) | (refine oS (ea rfl rfl rfl ?_) rfl ?_; (dsimp only [InK]; first | omega | exact ⟨Int.natCast_nonneg _, by omega⟩)) | (refine oS (ed rfl rfl rfl ?_ ?_ ?_) rfl ?_; (first | omega | exact Int.natCast_nonneg _); (first | omega | exact Int.natCast_nonneg _); (dsimp only [InK]; first | omega | exact ⟨Int.natCast_nonneg _, by omega⟩)) | refine oS (ev_fieldAddr rfl rfl) rfl ?_ | (refine oS (ev_conv rfl rfl rfl (wrap_in ?_)) rfl ?_; (dsimp only [InK]; first | omega | exact ⟨Int.natCast_nonneg _, by omega⟩)) | refine oS (ev_bool_eql rfl rfl rfl) rfl ?_ | refine oS (eg rfl rfl rfl) rfl ?_ | (refine jdq rfl rfl ?_ ?_ ?_; kernel_rfl; kernel_rfl) | (refine oS (ev_build (t := ?_) rfl rfl rfl ?_) rfl ?_; rotate_left; (repeat (first | exact FillF.nil | refine FillF.cons (by constructor) rfl rfl (by repeat constructor) ?_))) | refine oS (ev_ptr_eql_nil rfl rfl rfl) rfl ?_ | refine oS (ev_ptr_neq_nil rfl rfl rfl) rfl ?_ | refine oS (ev_load rfl rfl (Rdb.ofB (n := 0) .here rfl)) rfl ?_ | refine oS (ev_load rfl rfl (Rdb.ofB (n := 0) (.there .here) rfl)) rfl ?_ | refine oS (ev_load rfl rfl (Rdb.ofB (n := 0) (.there (.there .here)) rfl)) rfl ?_)
  exact J_retv rfl (.tmp rfl .nil) [] (fun w s => s) (hle5.trans (hle1.trans (hF3.trans hF4))) ⟨rfl, rfl⟩
end Go.Proofs.Ytknhcjdcenoniaa
