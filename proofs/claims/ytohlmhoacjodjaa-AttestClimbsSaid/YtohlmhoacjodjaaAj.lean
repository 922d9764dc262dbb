/-
  A book, and keys, as those who tell digests; whether a leaf is proved; few, same. Conditions are typed with each.
-/
import Derived.Test.YtohlmhoacjodjaaAf
namespace Go.Proofs.Ytohlmhoacjodjaa
open Go.RowKit
set_option maxRecDepth 100000
def bookC (b m : Nat) (tg : Value) : Cry where
  σ := List Hk
  t := 41
  rv := .pointer (some ⟨b, 0, none⟩)
  f := 59
  mr := fun args w => by kernel_rfl
  mn := fun w => by kernel_rfl
  A := bookA b m tg
  dg := fun s k x => (bkD s (k, x), (placeP s (k, x)).2)
  room := List.length
  len32 := fun s k x => dnuB_len _ _
  grow := fun s k x => by
    obtain ⟨t, e, h⟩ := placeP_ext s (k, x)
    rw [e, List.length_append]
    omega
  spec := fun s k x v F hk hr hx h => (bdigest_spec b m tg v k x s F hk (by omega) h).mono fun _ _ _ _ ⟨_, h1, h2⟩ => ⟨h1, h2⟩
def chkP (C : Cry) (s : C.σ) (root : List UInt8) (n i : Nat) (leaf : List UInt8) (path : List (List UInt8)) : Bool := decide ((climbP C s n i leaf path).1 = some root)
set_option maxHeartbeats 8000000 in
theorem check_spec (C : Cry) (s : C.σ) (root : List UInt8) (n i : Nat) (leaf : List UInt8) (path : List (List UInt8)) (lv pv : Value) (F : PH) (hn : n ≤ 1048576) (hi : i < n) (hr : C.room s + path.length ≤ 80000) (hl : leaf.length ≤ 100000) (hlv : Byt F lv leaf) (hpv : DgV F pv path) (hp32 : D32 path) (hroot : root.length = 32) :
    Spec Try.prog 19 [C.v, .agg (u8s root).toArray, .int .i64 n, .int .i64 i, lv, pv] F (C.A s) fun u _ H' => u = .bool (chkP C s root n i leaf path) ∧ H' = C.A (climbP C s n i leaf path).2 := by
  have h32 := climb_len C s n i leaf path
  have hr8 : (u8s root).length = 32 := by rw [u8s_len, hroot]
  obtain ⟨_, ap, cp, rfl, hcp, _⟩ := id hpv
  obtain ⟨_, al, cl, rfl, hcl, _⟩ := id hlv
  refine Spec.of6 Try.func19 rfl rfl fun X w0 => ?_
  repeat (first|refine zJ rfl rfl ?_|refine jr rfl ?_|refine jn ?_|refine zM rfl rfl ?_|(refine zC rfl rfl ?_ rfl ?_;omega)|(refine zD rfl rfl ?_ rfl ?_;omega)|(refine zP rfl ?_ rfl ?_;omega)|refine zG rfl rfl rfl rfl ?_|(refine jdq rfl rfl ?_ ?_ ?_;kernel_rfl;kernel_rfl)|refine zB rfl rfl rfl (by repeat constructor) rfl ?_|refine zH .here rfl rfl rfl rfl ?_|refine zH (.there .here) rfl rfl rfl rfl ?_|refine zH (.there (.there .here)) rfl rfl rfl rfl ?_)
  refine oE (ev_box rfl .agg) rfl ?_; rintro _ _ _ _ ⟨rfl, b7, rfl, rfl⟩
  repeat (first|refine zJ rfl rfl ?_|refine jr rfl ?_|refine jn ?_|refine zM rfl rfl ?_|(refine zC rfl rfl ?_ rfl ?_;omega)|(refine zD rfl rfl ?_ rfl ?_;omega)|(refine zP rfl ?_ rfl ?_;omega)|refine zG rfl rfl rfl rfl ?_|(refine jdq rfl rfl ?_ ?_ ?_;kernel_rfl;kernel_rfl)|refine zB rfl rfl rfl (by repeat constructor) rfl ?_|refine zH .here rfl rfl rfl rfl ?_|refine zH (.there .here) rfl rfl rfl rfl ?_|refine zH (.there (.there .here)) rfl rfl rfl rfl ?_)
  refine oC (Hc := C.A s) (Hr := blk b7 28 (u8s root) :: X) (climb_spec C s n i leaf path _ _ F hn hi hr hl hlv hpv hp32) Try.call16 rfl rfl (fun w t => t.front (A := [_])) ?_
  rintro _ F1 _ hF1 ⟨rfl, rfl⟩
  repeat (first|refine zJ rfl rfl ?_|refine jr rfl ?_|refine jn ?_|refine zM rfl rfl ?_|(refine zC rfl rfl ?_ rfl ?_;omega)|(refine zD rfl rfl ?_ rfl ?_;omega)|(refine zP rfl ?_ rfl ?_;omega)|refine zG rfl rfl rfl rfl ?_|(refine jdq rfl rfl ?_ ?_ ?_;kernel_rfl;kernel_rfl)|refine zB rfl rfl rfl (by repeat constructor) rfl ?_|refine zH .here rfl rfl rfl rfl ?_|refine zH (.there .here) rfl rfl rfl rfl ?_|refine zH (.there (.there .here)) rfl rfl rfl rfl ?_)
  refine oE (ev_alloc (E := 28) (cs := u8s zd32) (by kernel_rfl)) rfl ?_
  rintro _ _ _ _ ⟨rfl, b13, rfl, rfl⟩
  refine oN (ev_store (b := b13) (vs := u8s (climbV (climbP C s n i leaf path).1)) rfl rfl .agg rfl h32 (lay_all (zs := u8s zd32) (by rw [h32]; rfl)) (u8s_ones _) .here) rfl ?_
  rintro _ _ _ _ ⟨rfl, _, rfl⟩
  unfold chkP
  cases hc : (climbP C s n i leaf path).1 with
  | none =>
    repeat (first|refine zJ rfl rfl ?_|refine jr rfl ?_|refine jn ?_|refine zM rfl rfl ?_|(refine zC rfl rfl ?_ rfl ?_;omega)|(refine zD rfl rfl ?_ rfl ?_;omega)|(refine zP rfl ?_ rfl ?_;omega)|refine zG rfl rfl rfl rfl ?_|(refine jdq rfl rfl ?_ ?_ ?_;kernel_rfl;kernel_rfl)|refine zB rfl rfl rfl (by repeat constructor) rfl ?_|refine zH .here rfl rfl rfl rfl ?_|refine zH (.there .here) rfl rfl rfl rfl ?_|refine zH (.there (.there .here)) rfl rfl rfl rfl ?_)
    exact J_retv (vs := [.bool false]) rfl (.tmp rfl .nil) (C.A (climbP C s n i leaf path).2) (fun w s => (Sat.drop s).out1) hF1 ⟨by simp [retV], rfl⟩
  | some d =>
    rw [hc] at h32
    have h33 : d.length = 32 := by rw [← h32, u8s_len]; rfl
    repeat (first|refine zJ rfl rfl ?_|refine jr rfl ?_|refine jn ?_|refine zM rfl rfl ?_|(refine zC rfl rfl ?_ rfl ?_;omega)|(refine zD rfl rfl ?_ rfl ?_;omega)|(refine zP rfl ?_ rfl ?_;omega)|refine zG rfl rfl rfl rfl ?_|(refine jdq rfl rfl ?_ ?_ ?_;kernel_rfl;kernel_rfl)|refine zB rfl rfl rfl (by repeat constructor) rfl ?_|refine zH .here rfl rfl rfl rfl ?_|refine zH (.there .here) rfl rfl rfl rfl ?_|refine zH (.there (.there .here)) rfl rfl rfl rfl ?_)
    refine oS (ev_load_agg (cs := u8s d) rfl rfl (Rdb.ofB (n := 0) .here (by rw [List.drop_zero]; show (u8s d).take _ = u8s d; rw [List.take_length])) h32) rfl ?_
    refine oS (ev_load_agg (cs := u8s root) rfl rfl (Rdb.ofB (n := 0) (.there (Pick.app _ .here)) (by rw [List.drop_zero, List.take_length])) hr8) rfl ?_
    refine oS (ev_arr_eql (xs := d) (ys := root) (n := 32) (e := 5) rfl rfl (by kernel_rfl) (by kernel_rfl) h33 hroot (by kernel_rfl)) rfl ?_
    repeat (first|refine zJ rfl rfl ?_|refine jr rfl ?_|refine jn ?_|refine zM rfl rfl ?_|(refine zC rfl rfl ?_ rfl ?_;omega)|(refine zD rfl rfl ?_ rfl ?_;omega)|(refine zP rfl ?_ rfl ?_;omega)|refine zG rfl rfl rfl rfl ?_|(refine jdq rfl rfl ?_ ?_ ?_;kernel_rfl;kernel_rfl)|refine zB rfl rfl rfl (by repeat constructor) rfl ?_|refine zH .here rfl rfl rfl rfl ?_|refine zH (.there .here) rfl rfl rfl rfl ?_|refine zH (.there (.there .here)) rfl rfl rfl rfl ?_)
    exact J_retv (vs := [.bool (d == root)]) rfl (.tmp rfl .nil) (C.A (climbP C s n i leaf path).2) (fun w s => (Sat.drop s).out1) hF1 ⟨by simp [retV, Bool.beq_eq_decide_eq], rfl⟩
theorem pathnil_spec (C : Value) (l : List (List UInt8)) (v : Value) (i : Int) (F : PH) (h : RowV tyByt F v l) (hi : i < 0 ∨ (l.length : Int) ≤ i) : Pure Try.prog 13 [C, v, .int .i64 i] F (.slice none 0 0) := by
  obtain ⟨a, c, rfl, hc⟩ := h.form
  refine Spec.of3 Try.func13 rfl rfl fun X w0 => ?_
  by_cases h0 : i < 0
  · repeat (first|refine zJ rfl rfl ?_|refine jr rfl ?_|refine jn ?_|refine zM rfl rfl ?_|(refine zC rfl rfl ?_ rfl ?_;omega)|(refine zD rfl rfl ?_ rfl ?_;omega)|(refine zP rfl ?_ rfl ?_;omega)|refine zG rfl rfl rfl rfl ?_|(refine jdq rfl rfl ?_ ?_ ?_;kernel_rfl;kernel_rfl)|refine zB rfl rfl rfl (by repeat constructor) rfl ?_|refine zH .here rfl rfl rfl rfl ?_|refine zH (.there .here) rfl rfl rfl rfl ?_|refine zH (.there (.there .here)) rfl rfl rfl rfl ?_)
    exact J_ret1 rfl rfl [] rfl (PH.ler _) ⟨rfl, rfl⟩
  · have h1 : (l.length : Int) ≤ i := by omega
    repeat (first|refine zJ rfl rfl ?_|refine jr rfl ?_|refine jn ?_|refine zM rfl rfl ?_|(refine zC rfl rfl ?_ rfl ?_;omega)|(refine zD rfl rfl ?_ rfl ?_;omega)|(refine zP rfl ?_ rfl ?_;omega)|refine zG rfl rfl rfl rfl ?_|(refine jdq rfl rfl ?_ ?_ ?_;kernel_rfl;kernel_rfl)|refine zB rfl rfl rfl (by repeat constructor) rfl ?_|refine zH .here rfl rfl rfl rfl ?_|refine zH (.there .here) rfl rfl rfl rfl ?_|refine zH (.there (.there .here)) rfl rfl rfl rfl ?_)
    exact J_ret1 rfl rfl [] rfl (PH.ler _) ⟨rfl, rfl⟩
def fewB (l : List (List UInt8)) : Bool := decide ((∀ x ∈ l, x.length ≤ 100) ∧ l.length ≤ 80)
set_option maxHeartbeats 4000000 in
theorem few_spec (l : List (List UInt8)) (v : Value) (F : PH) (h : RowV tyByt F v l) (hl : l.length ≤ maxLen) : Pure Try.prog 9 [v] F (.bool (fewB l)) := by
  unfold maxLen at hl
  obtain ⟨a, c, rfl, hc⟩ := h.form
  refine Spec.of1 Try.func9 rfl rfl fun X w0 => ?_
  repeat (first|refine zJ rfl rfl ?_|refine jr rfl ?_|refine jn ?_|refine zM rfl rfl ?_|(refine zC rfl rfl ?_ rfl ?_;omega)|(refine zD rfl rfl ?_ rfl ?_;omega)|(refine zP rfl ?_ rfl ?_;omega)|refine zG rfl rfl rfl rfl ?_|(refine jdq rfl rfl ?_ ?_ ?_;kernel_rfl;kernel_rfl)|refine zB rfl rfl rfl (by repeat constructor) rfl ?_|refine zH .here rfl rfl rfl rfl ?_|refine zH (.there .here) rfl rfl rfl rfl ?_|refine zH (.there (.there .here)) rfl rfl rfl rfl ?_)
  refine J_loop (ι := Nat) (fun j => j ≤ l.length ∧ ∀ x ∈ l.take j, x.length ≤ 100) (fun j => l.length - j) (fun j => [(0, .slice a l.length c), (5, .slice a l.length c), (6, .int .i64 l.length), (7, .int .i64 j)]) (fun _ => F) (fun _ => X) 0 ⟨Nat.zero_le _, fun x hx => by simp at hx⟩ ⟨⟨rfl, rfl, rfl, rfl, trivial⟩, fun _ s => s⟩ ?_
  rintro j ⟨hj, hall⟩
  by_cases hlt : j < l.length
  · have hg : l[j]? = some l[j] := List.getElem?_eq_getElem hlt
    have hmem : l[j] ∈ l := List.getElem_mem hlt
    obtain ⟨b1, o1, cs, rfl, hcs, ⟨vx, rfl, hx⟩, _⟩ := h.at hg
    have htk : l.take (j + 1) = l.take j ++ [l[j]] := take_snoc hg
    generalize l[j] = x at *
    obtain ⟨_, ax, cx, rfl, _, _⟩ := id hx
    by_cases h100 : x.length ≤ 100
    · repeat (first|refine zJ rfl rfl ?_|refine jr rfl ?_|refine jn ?_|refine zM rfl rfl ?_|(refine zC rfl rfl ?_ rfl ?_;omega)|(refine zD rfl rfl ?_ rfl ?_;omega)|(refine zP rfl ?_ rfl ?_;omega)|refine zG rfl rfl rfl rfl ?_|(refine jdq rfl rfl ?_ ?_ ?_;kernel_rfl;kernel_rfl)|refine zB rfl rfl rfl (by repeat constructor) rfl ?_|refine zH .here rfl rfl rfl rfl ?_|refine zH (.there .here) rfl rfl rfl rfl ?_|refine zH (.there (.there .here)) rfl rfl rfl rfl ?_)
      refine oS (ev_indexAddr rfl rfl rfl hlt) rfl ?_
      refine oS (ev_load rfl rfl (Rdb.ofF hcs)) rfl ?_
      repeat (first|refine zJ rfl rfl ?_|refine jr rfl ?_|refine jn ?_|refine zM rfl rfl ?_|(refine zC rfl rfl ?_ rfl ?_;omega)|(refine zD rfl rfl ?_ rfl ?_;omega)|(refine zP rfl ?_ rfl ?_;omega)|refine zG rfl rfl rfl rfl ?_|(refine jdq rfl rfl ?_ ?_ ?_;kernel_rfl;kernel_rfl)|refine zB rfl rfl rfl (by repeat constructor) rfl ?_|refine zH .here rfl rfl rfl rfl ?_|refine zH (.there .here) rfl rfl rfl rfl ?_|refine zH (.there (.there .here)) rfl rfl rfl rfl ?_)
      refine J_again (j + 1) ⟨hlt, fun y hy => ?_⟩ (by omega) ⟨⟨rfl, rfl, rfl, rfl, trivial⟩, fun w s => s⟩
      rw [htk] at hy
      rcases List.mem_append.1 hy with hy | hy
      · exact hall y hy
      · rw [List.mem_singleton] at hy; rw [hy]; exact h100
    · have hf : fewB l = false := by
        unfold fewB
        rw [decide_eq_false]
        exact fun ⟨hh, _⟩ => h100 (hh x hmem)
      rw [hf]
      repeat (first|refine zJ rfl rfl ?_|refine jr rfl ?_|refine jn ?_|refine zM rfl rfl ?_|(refine zC rfl rfl ?_ rfl ?_;omega)|(refine zD rfl rfl ?_ rfl ?_;omega)|(refine zP rfl ?_ rfl ?_;omega)|refine zG rfl rfl rfl rfl ?_|(refine jdq rfl rfl ?_ ?_ ?_;kernel_rfl;kernel_rfl)|refine zB rfl rfl rfl (by repeat constructor) rfl ?_|refine zH .here rfl rfl rfl rfl ?_|refine zH (.there .here) rfl rfl rfl rfl ?_|refine zH (.there (.there .here)) rfl rfl rfl rfl ?_)
      refine oS (ev_indexAddr rfl rfl rfl hlt) rfl ?_
      refine oS (ev_load rfl rfl (Rdb.ofF hcs)) rfl ?_
      repeat (first|refine zJ rfl rfl ?_|refine jr rfl ?_|refine jn ?_|refine zM rfl rfl ?_|(refine zC rfl rfl ?_ rfl ?_;omega)|(refine zD rfl rfl ?_ rfl ?_;omega)|(refine zP rfl ?_ rfl ?_;omega)|refine zG rfl rfl rfl rfl ?_|(refine jdq rfl rfl ?_ ?_ ?_;kernel_rfl;kernel_rfl)|refine zB rfl rfl rfl (by repeat constructor) rfl ?_|refine zH .here rfl rfl rfl rfl ?_|refine zH (.there .here) rfl rfl rfl rfl ?_|refine zH (.there (.there .here)) rfl rfl rfl rfl ?_)
      exact J_ret1 rfl rfl [] rfl (PH.ler _) ⟨rfl, rfl⟩
  · obtain rfl : j = l.length := by omega
    rw [List.take_length] at hall
    have hf : fewB l = decide (l.length ≤ 80) := by
      unfold fewB
      congr 1
      exact propext ⟨fun hh => hh.2, fun hh => ⟨hall, hh⟩⟩
    rw [hf]
    by_cases h80 : l.length ≤ 80
    · repeat (first|refine zJ rfl rfl ?_|refine jr rfl ?_|refine jn ?_|refine zM rfl rfl ?_|(refine zC rfl rfl ?_ rfl ?_;omega)|(refine zD rfl rfl ?_ rfl ?_;omega)|(refine zP rfl ?_ rfl ?_;omega)|refine zG rfl rfl rfl rfl ?_|(refine jdq rfl rfl ?_ ?_ ?_;kernel_rfl;kernel_rfl)|refine zB rfl rfl rfl (by repeat constructor) rfl ?_|refine zH .here rfl rfl rfl rfl ?_|refine zH (.there .here) rfl rfl rfl rfl ?_|refine zH (.there (.there .here)) rfl rfl rfl rfl ?_)
      exact J_ret1 rfl rfl [] rfl (PH.ler _) ⟨by simp [retV, h80], rfl⟩
    · repeat (first|refine zJ rfl rfl ?_|refine jr rfl ?_|refine jn ?_|refine zM rfl rfl ?_|(refine zC rfl rfl ?_ rfl ?_;omega)|(refine zD rfl rfl ?_ rfl ?_;omega)|(refine zP rfl ?_ rfl ?_;omega)|refine zG rfl rfl rfl rfl ?_|(refine jdq rfl rfl ?_ ?_ ?_;kernel_rfl;kernel_rfl)|refine zB rfl rfl rfl (by repeat constructor) rfl ?_|refine zH .here rfl rfl rfl rfl ?_|refine zH (.there .here) rfl rfl rfl rfl ?_|refine zH (.there (.there .here)) rfl rfl rfl rfl ?_)
      exact J_ret1 rfl rfl [] rfl (PH.ler _) ⟨by simp [retV, h80], rfl⟩
set_option maxHeartbeats 4000000 in
theorem same_spec (x y : List (List UInt8)) (v v' : Value) (F : PH) (h : DgV F v x) (h' : DgV F v' y) (hx : D32 x) (hy : D32 y) (hl : x.length ≤ 1000000) (hl' : y.length ≤ 1000000) : Pure Try.prog 14 [v, v'] F (.bool (decide (x = y))) := by
  obtain ⟨_, a, c, rfl, hc, _⟩ := id h
  obtain ⟨_, a', c', rfl, hc', _⟩ := id h'
  refine Spec.of2 Try.func14 rfl rfl fun X w0 => ?_
  by_cases hlen : x.length = y.length
  · repeat (first|refine zJ rfl rfl ?_|refine jr rfl ?_|refine jn ?_|refine zM rfl rfl ?_|(refine zC rfl rfl ?_ rfl ?_;omega)|(refine zD rfl rfl ?_ rfl ?_;omega)|(refine zP rfl ?_ rfl ?_;omega)|refine zG rfl rfl rfl rfl ?_|(refine jdq rfl rfl ?_ ?_ ?_;kernel_rfl;kernel_rfl)|refine zB rfl rfl rfl (by repeat constructor) rfl ?_|refine zH .here rfl rfl rfl rfl ?_|refine zH (.there .here) rfl rfl rfl rfl ?_|refine zH (.there (.there .here)) rfl rfl rfl rfl ?_)
    refine J_loop (ι := Nat) (fun j => j ≤ x.length ∧ x.take j = y.take j) (fun j => x.length - j) (fun j => [(0, .slice a x.length c), (1, .slice a' y.length c'), (12, .int .i64 x.length), (13, .int .i64 j)]) (fun _ => F) (fun _ => X) 0 ⟨Nat.zero_le _, by rw [List.take_zero, List.take_zero]⟩ ⟨⟨rfl, rfl, rfl, rfl, trivial⟩, fun _ s => s⟩ ?_
    rintro j ⟨hj, hall⟩
    by_cases hlt : j < x.length
    · have hg : x[j]? = some x[j] := List.getElem?_eq_getElem hlt
      have hg' : y[j]? = some (y[j]'(by omega)) := List.getElem?_eq_getElem _
      obtain ⟨b1, o1, rfl, hc1⟩ := DgV.at h hx hg hlt
      obtain ⟨b2, o2, rfl, hc2⟩ := DgV.at h' hy hg' (by omega)
      have h1 := hx _ (List.mem_of_getElem? hg)
      have h2 := hy _ (List.mem_of_getElem? hg')
      have t1 := take_snoc hg
      have t2 := take_snoc hg'
      generalize x[j] = d at *
      generalize (y[j]'(by omega)) = e at *
      by_cases hde : d = e
      · subst hde
        repeat (first|refine zJ rfl rfl ?_|refine jr rfl ?_|refine jn ?_|refine zM rfl rfl ?_|(refine zC rfl rfl ?_ rfl ?_;omega)|(refine zD rfl rfl ?_ rfl ?_;omega)|(refine zP rfl ?_ rfl ?_;omega)|refine zG rfl rfl rfl rfl ?_|(refine jdq rfl rfl ?_ ?_ ?_;kernel_rfl;kernel_rfl)|refine zB rfl rfl rfl (by repeat constructor) rfl ?_|refine zH .here rfl rfl rfl rfl ?_|refine zH (.there .here) rfl rfl rfl rfl ?_|refine zH (.there (.there .here)) rfl rfl rfl rfl ?_)
        refine oS (ev_indexAddr rfl rfl rfl hlt) rfl ?_
        refine oS (ev_load_agg (cs := u8s d) rfl rfl (Rdb.ofF hc1) (by rw [u8s_len, h1])) rfl ?_
        repeat (first|refine zJ rfl rfl ?_|refine jr rfl ?_|refine jn ?_|refine zM rfl rfl ?_|(refine zC rfl rfl ?_ rfl ?_;omega)|(refine zD rfl rfl ?_ rfl ?_;omega)|(refine zP rfl ?_ rfl ?_;omega)|refine zG rfl rfl rfl rfl ?_|(refine jdq rfl rfl ?_ ?_ ?_;kernel_rfl;kernel_rfl)|refine zB rfl rfl rfl (by repeat constructor) rfl ?_|refine zH .here rfl rfl rfl rfl ?_|refine zH (.there .here) rfl rfl rfl rfl ?_|refine zH (.there (.there .here)) rfl rfl rfl rfl ?_)
        refine oS (ev_indexAddr rfl rfl rfl (by omega)) rfl ?_
        refine oS (ev_load_agg (cs := u8s d) rfl rfl (Rdb.ofF hc2) (by rw [u8s_len, h2])) rfl ?_
        refine oS (ev_arr_neq (xs := d) (ys := d) (n := 32) (e := 5) rfl rfl (by kernel_rfl) (by kernel_rfl) h1 h2 (by kernel_rfl)) rfl ?_
        rw [show (d == d) = true from by simp]
        repeat (first|refine zJ rfl rfl ?_|refine jr rfl ?_|refine jn ?_|refine zM rfl rfl ?_|(refine zC rfl rfl ?_ rfl ?_;omega)|(refine zD rfl rfl ?_ rfl ?_;omega)|(refine zP rfl ?_ rfl ?_;omega)|refine zG rfl rfl rfl rfl ?_|(refine jdq rfl rfl ?_ ?_ ?_;kernel_rfl;kernel_rfl)|refine zB rfl rfl rfl (by repeat constructor) rfl ?_|refine zH .here rfl rfl rfl rfl ?_|refine zH (.there .here) rfl rfl rfl rfl ?_|refine zH (.there (.there .here)) rfl rfl rfl rfl ?_)
        exact J_again (j + 1) ⟨hlt, by rw [t1, t2, hall]⟩ (by omega) ⟨⟨rfl, rfl, rfl, rfl, trivial⟩, fun w s => s⟩
      · have hf : decide (x = y) = false := decide_eq_false fun hh => by subst hh; rw [hg] at hg'; cases hg'; exact hde rfl
        rw [hf]
        repeat (first|refine zJ rfl rfl ?_|refine jr rfl ?_|refine jn ?_|refine zM rfl rfl ?_|(refine zC rfl rfl ?_ rfl ?_;omega)|(refine zD rfl rfl ?_ rfl ?_;omega)|(refine zP rfl ?_ rfl ?_;omega)|refine zG rfl rfl rfl rfl ?_|(refine jdq rfl rfl ?_ ?_ ?_;kernel_rfl;kernel_rfl)|refine zB rfl rfl rfl (by repeat constructor) rfl ?_|refine zH .here rfl rfl rfl rfl ?_|refine zH (.there .here) rfl rfl rfl rfl ?_|refine zH (.there (.there .here)) rfl rfl rfl rfl ?_)
        refine oS (ev_indexAddr rfl rfl rfl hlt) rfl ?_
        refine oS (ev_load_agg (cs := u8s d) rfl rfl (Rdb.ofF hc1) (by rw [u8s_len, h1])) rfl ?_
        repeat (first|refine zJ rfl rfl ?_|refine jr rfl ?_|refine jn ?_|refine zM rfl rfl ?_|(refine zC rfl rfl ?_ rfl ?_;omega)|(refine zD rfl rfl ?_ rfl ?_;omega)|(refine zP rfl ?_ rfl ?_;omega)|refine zG rfl rfl rfl rfl ?_|(refine jdq rfl rfl ?_ ?_ ?_;kernel_rfl;kernel_rfl)|refine zB rfl rfl rfl (by repeat constructor) rfl ?_|refine zH .here rfl rfl rfl rfl ?_|refine zH (.there .here) rfl rfl rfl rfl ?_|refine zH (.there (.there .here)) rfl rfl rfl rfl ?_)
        refine oS (ev_indexAddr rfl rfl rfl (by omega)) rfl ?_
        refine oS (ev_load_agg (cs := u8s e) rfl rfl (Rdb.ofF hc2) (by rw [u8s_len, h2])) rfl ?_
        refine oS (ev_arr_neq (xs := d) (ys := e) (n := 32) (e := 5) rfl rfl (by kernel_rfl) (by kernel_rfl) h1 h2 (by kernel_rfl)) rfl ?_
        rw [show (d == e) = false from by simp [hde]]
        repeat (first|refine zJ rfl rfl ?_|refine jr rfl ?_|refine jn ?_|refine zM rfl rfl ?_|(refine zC rfl rfl ?_ rfl ?_;omega)|(refine zD rfl rfl ?_ rfl ?_;omega)|(refine zP rfl ?_ rfl ?_;omega)|refine zG rfl rfl rfl rfl ?_|(refine jdq rfl rfl ?_ ?_ ?_;kernel_rfl;kernel_rfl)|refine zB rfl rfl rfl (by repeat constructor) rfl ?_|refine zH .here rfl rfl rfl rfl ?_|refine zH (.there .here) rfl rfl rfl rfl ?_|refine zH (.there (.there .here)) rfl rfl rfl rfl ?_)
        exact J_ret1 rfl rfl [] rfl (PH.ler _) ⟨rfl, rfl⟩
    · obtain rfl : j = x.length := by omega
      have hf : decide (x = y) = true := decide_eq_true (by rw [List.take_length, hlen, List.take_length] at hall; exact hall)
      rw [hf]
      repeat (first|refine zJ rfl rfl ?_|refine jr rfl ?_|refine jn ?_|refine zM rfl rfl ?_|(refine zC rfl rfl ?_ rfl ?_;omega)|(refine zD rfl rfl ?_ rfl ?_;omega)|(refine zP rfl ?_ rfl ?_;omega)|refine zG rfl rfl rfl rfl ?_|(refine jdq rfl rfl ?_ ?_ ?_;kernel_rfl;kernel_rfl)|refine zB rfl rfl rfl (by repeat constructor) rfl ?_|refine zH .here rfl rfl rfl rfl ?_|refine zH (.there .here) rfl rfl rfl rfl ?_|refine zH (.there (.there .here)) rfl rfl rfl rfl ?_)
      exact J_ret1 rfl rfl [] rfl (PH.ler _) ⟨rfl, rfl⟩
  · have hf : decide (x = y) = false := decide_eq_false fun hh => hlen (by rw [hh])
    rw [hf]
    repeat (first|refine zJ rfl rfl ?_|refine jr rfl ?_|refine jn ?_|refine zM rfl rfl ?_|(refine zC rfl rfl ?_ rfl ?_;omega)|(refine zD rfl rfl ?_ rfl ?_;omega)|(refine zP rfl ?_ rfl ?_;omega)|refine zG rfl rfl rfl rfl ?_|(refine jdq rfl rfl ?_ ?_ ?_;kernel_rfl;kernel_rfl)|refine zB rfl rfl rfl (by repeat constructor) rfl ?_|refine zH .here rfl rfl rfl rfl ?_|refine zH (.there .here) rfl rfl rfl rfl ?_|refine zH (.there (.there .here)) rfl rfl rfl rfl ?_)
    exact J_ret1 rfl rfl [] rfl (PH.ler _) ⟨rfl, rfl⟩
end Go.Proofs.Ytohlmhoacjodjaa
