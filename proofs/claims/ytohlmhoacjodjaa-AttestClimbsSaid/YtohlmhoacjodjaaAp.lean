/-
  The document's book as one who tells digests; its pairs and roots. Conditions are typed with each.
-/
import Derived.Test.YtohlmhoacjodjaaAm
import Derived.Test.YtohlmhoacjodjaaAn
namespace Go.Proofs.Ytohlmhoacjodjaa
open Go.RowKit
set_option maxRecDepth 100000
def idealC (b m : Nat) (tg : Value) : Cry where
  σ := List (List UInt8)
  t := 25
  rv := .pointer (some ⟨b, 0, none⟩)
  f := 27
  mr := fun args w => by kernel_rfl
  mn := fun w => by kernel_rfl
  A := idealA b m tg
  dg := fun s k x => (idD s k x, (placeP s (idK k x)).2)
  room := List.length
  len32 := fun s k x => dnuB_len _ _
  grow := fun s k x => by
    obtain ⟨t, e, h⟩ := placeP_ext s (idK k x)
    rw [e, List.length_append]
    omega
  spec := fun s k x v F hk hr hx h => idigest_spec b m tg v k x s F hk (by omega) hx h
theorem place_again {α : Type} [DecidableEq α] {s S : List α} {k : α} (h : ∃ t, S = (placeP s k).2 ++ t) : placeP S k = ((placeP s k).1, S) := by
  obtain ⟨t, rfl⟩ := h
  have := posN_app _ t _ (placeP_pos s k)
  unfold placeP at this ⊢
  rw [this]
theorem pre_refl {α : Type} (s : List α) : ∃ t, s = s ++ t := ⟨[], by simp⟩
theorem pre_trans {α : Type} {a b c : List α} (h : ∃ t, b = a ++ t) (h' : ∃ t, c = b ++ t) : ∃ t, c = a ++ t := by
  obtain ⟨t, rfl⟩ := h
  obtain ⟨u, rfl⟩ := h'
  exact ⟨t ++ u, by rw [List.append_assoc]⟩
theorem pre_anti {α : Type} {a b : List α} (h : ∃ t, b = a ++ t) (h' : ∃ t, a = b ++ t) : a = b := by
  obtain ⟨t, rfl⟩ := h
  obtain ⟨u, e⟩ := h'
  rw [List.append_assoc] at e
  have : t ++ u = [] := by
    have := congrArg List.length e
    rw [List.length_append] at this
    exact List.eq_nil_of_length_eq_zero (by omega)
  rw [(List.append_eq_nil_iff.1 this).1, List.append_nil]
def idealL (b m : Nat) (tg : Value) : Law (idealC b m tg) where
  ext := fun (s S : List (List UInt8)) => ∃ t, S = s ++ t
  refl := pre_refl
  trans := pre_trans
  anti := pre_anti
  step := fun s k x => by
    obtain ⟨t, h, _⟩ := placeP_ext s (idK k x)
    exact ⟨t, h⟩
  again := fun s k x S h => by
    have e := place_again (k := idK k x) h
    show (idD S k x, (placeP S (idK k x)).2) = _
    unfold idD
    rw [e]
    rfl
def bookL (b m : Nat) (tg : Value) : Law (bookC b m tg) where
  ext := fun (s S : List Hk) => ∃ t, S = s ++ t
  refl := pre_refl
  trans := pre_trans
  anti := pre_anti
  step := fun s k x => by
    obtain ⟨t, h, _⟩ := placeP_ext s (k, x)
    exact ⟨t, h⟩
  again := fun s k x S h => by
    have e := place_again (k := ((k, x) : Hk)) h
    show (bkD S (k, x), (placeP S (k, x)).2) = _
    unfold bkD
    rw [e]
    rfl
/-- One who tells digests is the document's book. -/
def DocC (C : Cry) (b : Nat) : Prop := C.f = 27 ∧ C.rv = .pointer (some ⟨b, 0, none⟩)
theorem idealD (b m : Nat) (tg : Value) : DocC (idealC b m tg) b := ⟨rfl, rfl⟩
theorem DocC.sp {C : Cry} {b : Nat} (h : DocC C b) : ∀ (s : C.σ) (k : Int) (x : List UInt8) (v : Value) (F : PH), 0 ≤ k ∧ k < 256 → C.room s ≤ 90000 → x.length ≤ 100000 → Byt F v x → Spec Try.prog 27 [.pointer (some ⟨b, 0, none⟩), .int .i64 k, v] F (C.A s) fun u _ H' => u = .agg (u8s (C.dg s k x).1).toArray ∧ H' = C.A (C.dg s k x).2 := by
  have := C.spec
  rw [h.1, h.2] at this
  exact this
set_option maxHeartbeats 16000000 in
theorem ipair_spec {C : Cry} {b : Nat} (hD : DocC C b) (s : C.σ) (x y : List UInt8) (F : PH) (hr : C.room s ≤ 90000) (hx : x.length = 32) (hy : y.length = 32) : Spec Try.prog 29 [.pointer (some ⟨b, 0, none⟩), .agg (u8s x).toArray, .agg (u8s y).toArray] F (C.A s) fun u _ H' => u = .agg (u8s (pairD C s x y).1).toArray ∧ H' = C.A (pairD C s x y).2 := by
  have h32 : (u8s (pairD C s x y).1).length = 32 := by rw [u8s_len]; exact C.len32 _ _ _
  have hx8 : (u8s x).length = 32 := by rw [u8s_len, hx]
  have hy8 : (u8s y).length = 32 := by rw [u8s_len, hy]
  refine Spec.of3 Try.func29 rfl rfl fun X w0 => ?_
  repeat (first|refine zJ rfl rfl ?_|refine jr rfl ?_|refine jn ?_|refine zM rfl rfl ?_|(refine zC rfl rfl ?_ rfl ?_;omega)|(refine zD rfl rfl ?_ rfl ?_;omega)|(refine zP rfl ?_ rfl ?_;omega)|refine zG rfl rfl rfl rfl ?_|(refine jdq rfl rfl ?_ ?_ ?_;kernel_rfl;kernel_rfl)|refine zB rfl rfl rfl (by repeat constructor) rfl ?_|refine zH .here rfl rfl rfl rfl ?_|refine zH (.there .here) rfl rfl rfl rfl ?_|refine zH (.there (.there .here)) rfl rfl rfl rfl ?_)
  refine oE (ev_box rfl .agg) rfl ?_; rintro _ _ _ _ ⟨rfl, b4, rfl, rfl⟩
  refine oE (ev_box rfl .agg) rfl ?_; rintro _ _ _ _ ⟨rfl, b5, rfl, rfl⟩
  refine oE (ev_alloc (E := 28) (cs := u8s zd32) (by kernel_rfl)) rfl ?_
  rintro _ _ _ _ ⟨rfl, b6, rfl, rfl⟩
  repeat (first|refine zJ rfl rfl ?_|refine jr rfl ?_|refine jn ?_|refine zM rfl rfl ?_|(refine zC rfl rfl ?_ rfl ?_;omega)|(refine zD rfl rfl ?_ rfl ?_;omega)|(refine zP rfl ?_ rfl ?_;omega)|refine zG rfl rfl rfl rfl ?_|(refine jdq rfl rfl ?_ ?_ ?_;kernel_rfl;kernel_rfl)|refine zB rfl rfl rfl (by repeat constructor) rfl ?_|refine zH .here rfl rfl rfl rfl ?_|refine zH (.there .here) rfl rfl rfl rfl ?_|refine zH (.there (.there .here)) rfl rfl rfl rfl ?_)
  refine oS (ev_load_agg (cs := u8s x) rfl rfl (Rdb.ofB (n := 0) (.there (.there .here)) (by rw [List.drop_zero, List.take_length])) hx8) rfl ?_
  repeat (first|refine zJ rfl rfl ?_|refine jr rfl ?_|refine jn ?_|refine zM rfl rfl ?_|(refine zC rfl rfl ?_ rfl ?_;omega)|(refine zD rfl rfl ?_ rfl ?_;omega)|(refine zP rfl ?_ rfl ?_;omega)|refine zG rfl rfl rfl rfl ?_|(refine jdq rfl rfl ?_ ?_ ?_;kernel_rfl;kernel_rfl)|refine zB rfl rfl rfl (by repeat constructor) rfl ?_|refine zH .here rfl rfl rfl rfl ?_|refine zH (.there .here) rfl rfl rfl rfl ?_|refine zH (.there (.there .here)) rfl rfl rfl rfl ?_)
  refine J_own_nil 5 1 ?_
  refine J_loop2 (fun (j : Nat) (_ : Value) => j ≤ 32) (fun j _ => 32 - j) (fun j v => [(0, .pointer (some ⟨b, 0, none⟩)), (4, .pointer (some ⟨b4, 0, none⟩)), (5, .pointer (some ⟨b5, 0, none⟩)), (6, .pointer (some ⟨b6, 0, none⟩)), (7, v), (12, .agg (u8s x).toArray), (13, .int .i64 j)]) (fun _ _ => F) (fun j v => own v 5 1 j (u8s (x.take j)) :: blk b6 28 (u8s zd32) :: blk b5 28 (u8s y) :: blk b4 28 (u8s x) :: (C.A s ++ X)) 0 (.slice none 0 0) (by omega) ⟨⟨rfl, rfl, rfl, rfl, rfl, rfl, rfl, trivial⟩, fun _ s => s⟩ ?_
  rintro j v hj
  by_cases hlt : j < 32
  · have hg : x[j]? = some (x[j]'(by omega)) := List.getElem?_eq_getElem _
    have htk := take_snoc hg
    generalize (x[j]'(by omega)) = c at *
    refine jOwn .here fun av kv hv _ _ _ => ?_
    subst hv
    repeat (first|refine zJ rfl rfl ?_|refine jr rfl ?_|refine jn ?_|refine zM rfl rfl ?_|(refine zC rfl rfl ?_ rfl ?_;omega)|(refine zD rfl rfl ?_ rfl ?_;omega)|(refine zP rfl ?_ rfl ?_;omega)|refine zG rfl rfl rfl rfl ?_|(refine jdq rfl rfl ?_ ?_ ?_;kernel_rfl;kernel_rfl)|refine zB rfl rfl rfl (by repeat constructor) rfl ?_|refine zH .here rfl rfl rfl rfl ?_|refine zH (.there .here) rfl rfl rfl rfl ?_|refine zH (.there (.there .here)) rfl rfl rfl rfl ?_)
    refine oS (ev_index_arr (n := 32) (e := 5) rfl rfl (by kernel_rfl) (by kernel_rfl) hx hg) rfl ?_
    repeat (first|refine zJ rfl rfl ?_|refine jr rfl ?_|refine jn ?_|refine zM rfl rfl ?_|(refine zC rfl rfl ?_ rfl ?_;omega)|(refine zD rfl rfl ?_ rfl ?_;omega)|(refine zP rfl ?_ rfl ?_;omega)|refine zG rfl rfl rfl rfl ?_|(refine jdq rfl rfl ?_ ?_ ?_;kernel_rfl;kernel_rfl)|refine zB rfl rfl rfl (by repeat constructor) rfl ?_|refine zH .here rfl rfl rfl rfl ?_|refine zH (.there .here) rfl rfl rfl rfl ?_|refine zH (.there (.there .here)) rfl rfl rfl rfl ?_)
    refine oA (vs := [.int .u8 c.toNat]) (K := fun v' => own v' 5 1 (j + 1) (u8s (x.take j) ++ [.int .u8 c.toNat]) :: blk b6 28 (u8s zd32) :: blk b5 28 (u8s y) :: blk b4 28 (u8s x) :: (C.A s ++ X)) (fun _ => rfl) rfl .int rfl elB (ones_cons rfl ones_nil) (by omega) (fun _ => .here) rfl (fun _ => rfl) fun u _ => ?_
    repeat (first|refine zJ rfl rfl ?_|refine jr rfl ?_|refine jn ?_|refine zM rfl rfl ?_|(refine zC rfl rfl ?_ rfl ?_;omega)|(refine zD rfl rfl ?_ rfl ?_;omega)|(refine zP rfl ?_ rfl ?_;omega)|refine zG rfl rfl rfl rfl ?_|(refine jdq rfl rfl ?_ ?_ ?_;kernel_rfl;kernel_rfl)|refine zB rfl rfl rfl (by repeat constructor) rfl ?_|refine zH .here rfl rfl rfl rfl ?_|refine zH (.there .here) rfl rfl rfl rfl ?_|refine zH (.there (.there .here)) rfl rfl rfl rfl ?_)
    refine J_again2 (j + 1) u (by omega) (by omega) ⟨⟨rfl, rfl, rfl, rfl, rfl, rfl, rfl, trivial⟩, fun w t => ?_⟩
    rw [htk, u8s_append]
    exact t
  obtain rfl : j = 32 := by omega
  rw [List.take_of_length_le (by omega)]
  repeat (first|refine zJ rfl rfl ?_|refine jr rfl ?_|refine jn ?_|refine zM rfl rfl ?_|(refine zC rfl rfl ?_ rfl ?_;omega)|(refine zD rfl rfl ?_ rfl ?_;omega)|(refine zP rfl ?_ rfl ?_;omega)|refine zG rfl rfl rfl rfl ?_|(refine jdq rfl rfl ?_ ?_ ?_;kernel_rfl;kernel_rfl)|refine zB rfl rfl rfl (by repeat constructor) rfl ?_|refine zH .here rfl rfl rfl rfl ?_|refine zH (.there .here) rfl rfl rfl rfl ?_|refine zH (.there (.there .here)) rfl rfl rfl rfl ?_)
  refine oS (ev_load_agg (cs := u8s y) rfl rfl (Rdb.ofB (n := 0) (.there (.there .here)) (by rw [List.drop_zero, List.take_length])) hy8) rfl ?_
  repeat (first|refine zJ rfl rfl ?_|refine jr rfl ?_|refine jn ?_|refine zM rfl rfl ?_|(refine zC rfl rfl ?_ rfl ?_;omega)|(refine zD rfl rfl ?_ rfl ?_;omega)|(refine zP rfl ?_ rfl ?_;omega)|refine zG rfl rfl rfl rfl ?_|(refine jdq rfl rfl ?_ ?_ ?_;kernel_rfl;kernel_rfl)|refine zB rfl rfl rfl (by repeat constructor) rfl ?_|refine zH .here rfl rfl rfl rfl ?_|refine zH (.there .here) rfl rfl rfl rfl ?_|refine zH (.there (.there .here)) rfl rfl rfl rfl ?_)
  refine J_loop2 (fun (j : Nat) (_ : Value) => j ≤ 32) (fun j _ => 32 - j) (fun j v => [(0, .pointer (some ⟨b, 0, none⟩)), (6, .pointer (some ⟨b6, 0, none⟩)), (7, v), (21, .agg (u8s y).toArray), (22, .int .i64 j)]) (fun _ _ => F) (fun j v => own v 5 1 (32 + j) (u8s (x ++ y.take j)) :: blk b6 28 (u8s zd32) :: blk b5 28 (u8s y) :: blk b4 28 (u8s x) :: (C.A s ++ X)) 0 v (by omega) ⟨⟨rfl, rfl, rfl, rfl, rfl, trivial⟩, fun w s => by rw [List.take_zero, List.append_nil]; exact s⟩ ?_
  clear v
  rintro j v hj
  by_cases hlt : j < 32
  · have hg : y[j]? = some (y[j]'(by omega)) := List.getElem?_eq_getElem _
    have htk := take_snoc hg
    generalize (y[j]'(by omega)) = c at *
    refine jOwn .here fun av kv hv _ _ _ => ?_
    subst hv
    repeat (first|refine zJ rfl rfl ?_|refine jr rfl ?_|refine jn ?_|refine zM rfl rfl ?_|(refine zC rfl rfl ?_ rfl ?_;omega)|(refine zD rfl rfl ?_ rfl ?_;omega)|(refine zP rfl ?_ rfl ?_;omega)|refine zG rfl rfl rfl rfl ?_|(refine jdq rfl rfl ?_ ?_ ?_;kernel_rfl;kernel_rfl)|refine zB rfl rfl rfl (by repeat constructor) rfl ?_|refine zH .here rfl rfl rfl rfl ?_|refine zH (.there .here) rfl rfl rfl rfl ?_|refine zH (.there (.there .here)) rfl rfl rfl rfl ?_)
    refine oS (ev_index_arr (n := 32) (e := 5) rfl rfl (by kernel_rfl) (by kernel_rfl) hy hg) rfl ?_
    repeat (first|refine zJ rfl rfl ?_|refine jr rfl ?_|refine jn ?_|refine zM rfl rfl ?_|(refine zC rfl rfl ?_ rfl ?_;omega)|(refine zD rfl rfl ?_ rfl ?_;omega)|(refine zP rfl ?_ rfl ?_;omega)|refine zG rfl rfl rfl rfl ?_|(refine jdq rfl rfl ?_ ?_ ?_;kernel_rfl;kernel_rfl)|refine zB rfl rfl rfl (by repeat constructor) rfl ?_|refine zH .here rfl rfl rfl rfl ?_|refine zH (.there .here) rfl rfl rfl rfl ?_|refine zH (.there (.there .here)) rfl rfl rfl rfl ?_)
    refine oA (vs := [.int .u8 c.toNat]) (K := fun v' => own v' 5 1 (32 + j + 1) (u8s (x ++ y.take j) ++ [.int .u8 c.toNat]) :: blk b6 28 (u8s zd32) :: blk b5 28 (u8s y) :: blk b4 28 (u8s x) :: (C.A s ++ X)) (fun _ => rfl) rfl .int rfl elB (ones_cons rfl ones_nil) (by omega) (fun _ => .here) rfl (fun _ => rfl) fun u _ => ?_
    repeat (first|refine zJ rfl rfl ?_|refine jr rfl ?_|refine jn ?_|refine zM rfl rfl ?_|(refine zC rfl rfl ?_ rfl ?_;omega)|(refine zD rfl rfl ?_ rfl ?_;omega)|(refine zP rfl ?_ rfl ?_;omega)|refine zG rfl rfl rfl rfl ?_|(refine jdq rfl rfl ?_ ?_ ?_;kernel_rfl;kernel_rfl)|refine zB rfl rfl rfl (by repeat constructor) rfl ?_|refine zH .here rfl rfl rfl rfl ?_|refine zH (.there .here) rfl rfl rfl rfl ?_|refine zH (.there (.there .here)) rfl rfl rfl rfl ?_)
    refine J_again2 (j + 1) u (by omega) (by omega) ⟨⟨rfl, rfl, rfl, rfl, rfl, trivial⟩, fun w t => ?_⟩
    rw [htk, ← List.append_assoc, u8s_append]
    exact t
  obtain rfl : j = 32 := by omega
  rw [List.take_of_length_le (by omega)]
  refine J_persist fun hh hA hd => ?_
  have hb : Byt (F.un hh) v (x ++ y) := bytes_byt (by unfold bytes; rw [List.length_append, hx, hy]; exact hA) hd
  have hF1 := PH.le_l F hh
  generalize F.un hh = F1 at *
  repeat (first|refine zJ rfl rfl ?_|refine jr rfl ?_|refine jn ?_|refine zM rfl rfl ?_|(refine zC rfl rfl ?_ rfl ?_;omega)|(refine zD rfl rfl ?_ rfl ?_;omega)|(refine zP rfl ?_ rfl ?_;omega)|refine zG rfl rfl rfl rfl ?_|(refine jdq rfl rfl ?_ ?_ ?_;kernel_rfl;kernel_rfl)|refine zB rfl rfl rfl (by repeat constructor) rfl ?_|refine zH .here rfl rfl rfl rfl ?_|refine zH (.there .here) rfl rfl rfl rfl ?_|refine zH (.there (.there .here)) rfl rfl rfl rfl ?_)
  refine oC (Hc := C.A s) (Hr := blk b6 28 (u8s zd32) :: blk b5 28 (u8s y) :: blk b4 28 (u8s x) :: X) (hD.sp s 106 (x ++ y) v F1 (by decide) hr (by rw [List.length_append]; omega) hb) Try.call27 rfl rfl (fun w t => Sat.front (A := [_, _, _]) (B := C.A s) t) ?_
  rintro _ F2 _ hF2 ⟨rfl, rfl⟩
  refine oN (ev_store (b := b6) (vs := u8s (pairD C s x y).1) rfl rfl .agg rfl h32 (lay_all (zs := u8s zd32) (by rw [h32]; rfl)) (u8s_ones _) (Upd.app _ .here)) rfl ?_
  rintro _ _ _ _ ⟨rfl, _, rfl⟩
  repeat (first|refine zJ rfl rfl ?_|refine jr rfl ?_|refine jn ?_|refine zM rfl rfl ?_|(refine zC rfl rfl ?_ rfl ?_;omega)|(refine zD rfl rfl ?_ rfl ?_;omega)|(refine zP rfl ?_ rfl ?_;omega)|refine zG rfl rfl rfl rfl ?_|(refine jdq rfl rfl ?_ ?_ ?_;kernel_rfl;kernel_rfl)|refine zB rfl rfl rfl (by repeat constructor) rfl ?_|refine zH .here rfl rfl rfl rfl ?_|refine zH (.there .here) rfl rfl rfl rfl ?_|refine zH (.there (.there .here)) rfl rfl rfl rfl ?_)
  exact J_retv (vs := [.agg (u8s (pairD C s x y).1).toArray]) rfl (.agg rfl rfl (Rdb.ofB (n := 0) (Pick.app _ .here) (by rw [List.drop_zero, List.take_length])) h32 .nil) (C.A (pairD C s x y).2) (fun w s => (Sat.front (B := [_, _, _]) s).drop.drop.drop) (hF1.trans hF2) ⟨rfl, rfl⟩
end Go.Proofs.Ytohlmhoacjodjaa
