/-
  Proofs kept by a call: searched, put in an older one's place. Conditions are typed with each.
  Proofs kept by a call: one put in an older one's place. Conditions are typed with each.
-/
import Derived.Test.YtmicjjhkoicdnaaJg
import Derived.Test.YtmicjjhkoicdnaaLg
namespace Go.Proofs.Ytmicjjhkoicdnaa
open Go.RowKit
set_option maxRecDepth 100000
theorem idx_split {α : Type} (h : α → Bool) : ∀ (L : List α) (n : Int), (idxP h L n = -1 ∧ ∀ y ∈ L, h y = false) ∨ ∃ A y B, L = A ++ y :: B ∧ idxP h L n = n + A.length ∧ h y = true ∧ ∀ z ∈ A, h z = false
  | [], n => .inl ⟨rfl, fun _ h => nomatch h⟩
  | y :: r, n => by
    rw [idxP_cons]
    cases hy : h y with
    | true => exact .inr ⟨[], y, r, rfl, by simp, hy, fun _ h => nomatch h⟩
    | false =>
      rw [if_neg (by decide)]
      rcases idx_split h r (n + 1) with ⟨e, ha⟩ | ⟨A, z, B, rfl, e, hz, ha⟩
      · exact .inl ⟨e, fun w hw => by rcases List.mem_cons.1 hw with rfl | hw; exact hy; exact ha w hw⟩
      · exact .inr ⟨y :: A, z, B, rfl, by rw [e, List.length_cons]; omega, hz, fun w hw => by rcases List.mem_cons.1 hw with rfl | hw; exact hy; exact ha w hw⟩
/-- The row with one in the place of an older one that is like it. -/
def newerP (h : PrX → Bool) (l : List PrX) (x : PrX) : List PrX :=
  match l.find? h with
  | none => l ++ [x]
  | some y => if y.2.1 < x.2.1 then l.eraseP h ++ [x] else l
theorem newer_none {h : PrX → Bool} {l : List PrX} {x : PrX} (hn : ∀ y ∈ l, h y = false) : newerP h l x = l ++ [x] := by
  unfold newerP
  rw [List.find?_eq_none.2 (fun y hy => by rw [hn y hy]; decide)]
theorem newer_some {h : PrX → Bool} {A B : List PrX} {y x : PrX} (hn : ∀ z ∈ A, h z = false) (hy : h y = true) : newerP h (A ++ y :: B) x = if y.2.1 < x.2.1 then (A ++ B) ++ [x] else A ++ y :: B := by
  have e1 : (A ++ y :: B).find? h = some y := by
    rw [List.find?_append, List.find?_eq_none.2 (fun z hz => by rw [hn z hz]; decide), List.find?_cons_of_pos hy]
    rfl
  have e2 : (A ++ y :: B).eraseP h = A ++ B := by
    rw [List.eraseP_append_right _ (fun z hz => by rw [hn z hz]; decide), List.eraseP_cons_of_pos hy]
  unfold newerP
  rw [e1, e2]
set_option maxHeartbeats 4000000 in
theorem pidx_spec (f : FuncId) (caps : List Value) (h : PV → Bool) (a : Option Addr) (n c : Nat) (L : List PV) (F : PH) (hl : L.length = n) (hn : n ≤ 1000) (ha : 0 < n → ∃ b, a = some ⟨b, 0, none⟩) (hcall : ∀ args w, (callFunc f args).run Try.prog w = .ok (.enter f args) w)
    (hs : ∀ y ∈ L, Pure Try.prog f (.agg y.cs.toArray :: caps) F (.bool (h y))) : Spec Try.prog 47 [.slice a n c, fnV f caps] F [own (.slice a n c) 43 3 n (rowC PV.cs L)] fun u F' H' => F = F' ∧ u = .int .i64 (idxP h L 0) ∧ H' = [own (.slice a n c) 43 3 n (rowC PV.cs L)] := by
  refine Spec.of2 Try.func47 rfl rfl fun X w0 => ?_
  dsimp only [List.cons_append, List.nil_append]
  repeat (first|refine zJ rfl rfl ?_|refine jr rfl ?_|refine jn ?_|refine zM rfl rfl ?_|(refine zC rfl rfl ?_ rfl ?_;omega)|(refine zD rfl rfl ?_ rfl ?_;omega)|(refine zP rfl ?_ rfl ?_;omega)|refine zG rfl rfl rfl rfl ?_|(refine jdq rfl rfl ?_ ?_ ?_;kernel_rfl;kernel_rfl)|refine zB rfl rfl rfl (by repeat constructor) rfl ?_|refine zH .here rfl rfl rfl rfl ?_|refine zH (.there .here) rfl rfl rfl rfl ?_|refine zH (.there (.there .here)) rfl rfl rfl rfl ?_)
  refine J_loop (ι := Nat) (fun j => j ≤ n ∧ idxP h L 0 = idxP h (L.drop j) j) (fun j => n - j) (fun j => [(0, .slice a n c), (1, fnV f caps), (7, .int .i64 n), (8, .int .i64 j)]) (fun _ => F) (fun _ => own (.slice a n c) 43 3 n (rowC PV.cs L) :: X) 0 ⟨Nat.zero_le _, rfl⟩
    ⟨⟨rfl, rfl, rfl, rfl, trivial⟩, fun _ h => h⟩ ?_
  rintro j ⟨hj, heq⟩
  by_cases hlt : j < n
  · have g1 : L[j]? = some (L[j]'(by omega)) := List.getElem?_eq_getElem (by omega)
    obtain ⟨b, rfl⟩ := ha (by omega)
    have hcl := hs _ (List.getElem_mem (by omega : j < L.length))
    rw [drop_cons g1, idxP_cons] at heq
    generalize L[j]'(by omega) = y at *
    repeat (first|refine zJ rfl rfl ?_|refine jr rfl ?_|refine jn ?_|refine zM rfl rfl ?_|(refine zC rfl rfl ?_ rfl ?_;omega)|(refine zD rfl rfl ?_ rfl ?_;omega)|(refine zP rfl ?_ rfl ?_;omega)|refine zG rfl rfl rfl rfl ?_|(refine jdq rfl rfl ?_ ?_ ?_;kernel_rfl;kernel_rfl)|refine zB rfl rfl rfl (by repeat constructor) rfl ?_|refine zH .here rfl rfl rfl rfl ?_|refine zH (.there .here) rfl rfl rfl rfl ?_|refine zH (.there (.there .here)) rfl rfl rfl rfl ?_)
    refine oS (ev_indexAddr rfl rfl rfl hlt) rfl ?_
    refine oS (ev_load_agg (cs := y.cs) rfl rfl (rdb_row .here PV.len g1) y.len) rfl ?_
    refine oPF rfl hcl hcall rfl rfl ?_
    cases hy : h y with
    | true =>
      rw [if_pos hy] at heq
      repeat (first|refine zJ rfl rfl ?_|refine jr rfl ?_|refine jn ?_|refine zM rfl rfl ?_|(refine zC rfl rfl ?_ rfl ?_;omega)|(refine zD rfl rfl ?_ rfl ?_;omega)|(refine zP rfl ?_ rfl ?_;omega)|refine zG rfl rfl rfl rfl ?_|(refine jdq rfl rfl ?_ ?_ ?_;kernel_rfl;kernel_rfl)|refine zB rfl rfl rfl (by repeat constructor) rfl ?_|refine zH .here rfl rfl rfl rfl ?_|refine zH (.there .here) rfl rfl rfl rfl ?_|refine zH (.there (.there .here)) rfl rfl rfl rfl ?_)
      rw [heq]
      exact J_retv rfl (.tmp rfl .nil) [_] (fun w s => s) (PH.ler _) ⟨rfl, rfl, rfl⟩
    | false =>
      rw [if_neg (by rw [hy]; decide)] at heq
      repeat (first|refine zJ rfl rfl ?_|refine jr rfl ?_|refine jn ?_|refine zM rfl rfl ?_|(refine zC rfl rfl ?_ rfl ?_;omega)|(refine zD rfl rfl ?_ rfl ?_;omega)|(refine zP rfl ?_ rfl ?_;omega)|refine zG rfl rfl rfl rfl ?_|(refine jdq rfl rfl ?_ ?_ ?_;kernel_rfl;kernel_rfl)|refine zB rfl rfl rfl (by repeat constructor) rfl ?_|refine zH .here rfl rfl rfl rfl ?_|refine zH (.there .here) rfl rfl rfl rfl ?_|refine zH (.there (.there .here)) rfl rfl rfl rfl ?_)
      exact J_again (j + 1) ⟨hlt, by rw [heq]; rfl⟩ (by omega) ⟨⟨rfl, rfl, rfl, rfl, trivial⟩, fun w s => s⟩
  · obtain rfl : j = n := by omega
    rw [List.drop_of_length_le (by omega), idxP_nil] at heq
    rw [heq]
    repeat (first|refine zJ rfl rfl ?_|refine jr rfl ?_|refine jn ?_|refine zM rfl rfl ?_|(refine zC rfl rfl ?_ rfl ?_;omega)|(refine zD rfl rfl ?_ rfl ?_;omega)|(refine zP rfl ?_ rfl ?_;omega)|refine zG rfl rfl rfl rfl ?_|(refine jdq rfl rfl ?_ ?_ ?_;kernel_rfl;kernel_rfl)|refine zB rfl rfl rfl (by repeat constructor) rfl ?_|refine zH .here rfl rfl rfl rfl ?_|refine zH (.there .here) rfl rfl rfl rfl ?_|refine zH (.there (.there .here)) rfl rfl rfl rfl ?_)
    exact J_retv rfl (.tmp rfl .nil) [_] (fun w s => s) (PH.ler _) ⟨rfl, rfl, rfl⟩
/-- One with the same number. -/
theorem seqIs_spec (y x : PV) (b : Nat) (F : PH) (h : Cells F b 0 x.cs) : Pure Try.prog 38 [.agg y.cs.toArray, .pointer (some ⟨b, 0, none⟩)] F (.bool (decide (y.s = x.s))) := by
  obtain ⟨s, w, a, n, c, es⟩ := y
  obtain ⟨s', w', a', n', c', es'⟩ := x
  refine Spec.of2 Try.func38 rfl rfl fun X w0 => ?_
  unfold PV.cs prC at *
  dsimp only at *
  refine jc rfl rfl ?_
  refine jr rfl ?_
  refine oE (ev_box rfl .agg) rfl ?_; rintro _ _ _ _ ⟨rfl, b1, rfl, rfl⟩
  repeat (first|refine zJ rfl rfl ?_|refine jr rfl ?_|refine jn ?_|refine zM rfl rfl ?_|(refine zC rfl rfl ?_ rfl ?_;omega)|(refine zD rfl rfl ?_ rfl ?_;omega)|(refine zP rfl ?_ rfl ?_;omega)|refine zG rfl rfl rfl rfl ?_|(refine jdq rfl rfl ?_ ?_ ?_;kernel_rfl;kernel_rfl)|refine zB rfl rfl rfl (by repeat constructor) rfl ?_|refine zH .here rfl rfl rfl rfl ?_|refine zH (.there .here) rfl rfl rfl rfl ?_|refine zH (.there (.there .here)) rfl rfl rfl rfl ?_)
  refine oS (ev_load (v := .int .i64 s') rfl rfl (Rdb.ofF (Cells.one h 0 rfl))) rfl ?_
  repeat (first|refine zJ rfl rfl ?_|refine jr rfl ?_|refine jn ?_|refine zM rfl rfl ?_|(refine zC rfl rfl ?_ rfl ?_;omega)|(refine zD rfl rfl ?_ rfl ?_;omega)|(refine zP rfl ?_ rfl ?_;omega)|refine zG rfl rfl rfl rfl ?_|(refine jdq rfl rfl ?_ ?_ ?_;kernel_rfl;kernel_rfl)|refine zB rfl rfl rfl (by repeat constructor) rfl ?_|refine zH .here rfl rfl rfl rfl ?_|refine zH (.there .here) rfl rfl rfl rfl ?_|refine zH (.there (.there .here)) rfl rfl rfl rfl ?_)
  exact J_retv rfl (.tmp rfl .nil) [] (fun w s => s.drop) (PH.ler _) ⟨rfl, rfl⟩
def alikeP (x y : PrX) : Bool := decide (y.1 = x.1) && sameE y.2.2.1 x.2.2.1
theorem alike_spec (y x : PV) (b : Nat) (F : PH) (h : Cells F b 0 x.cs) (hy : y.Ok F) (hx : x.Ok F) : Pure Try.prog 33 [.agg y.cs.toArray, .pointer (some ⟨b, 0, none⟩)] F (.bool (alikeP x.key y.key)) := by
  have hr := hy.2.2.1
  have hr' := hx.2.2.1
  clear hy hx
  obtain ⟨t, ht⟩ : ∃ t, t = alikeP x.key y.key := ⟨_, rfl⟩
  rw [← ht]
  rw [show alikeP x.key y.key = (decide (y.s = x.s) && sameE y.es x.es) from rfl] at ht
  obtain ⟨s, w, a, n, c, es⟩ := y
  obtain ⟨s', w', a', n', c', es'⟩ := x
  dsimp only at *
  refine Spec.of2 Try.func33 rfl rfl fun X w0 => ?_
  unfold PV.cs prC at *
  dsimp only at *
  refine jc rfl rfl ?_
  refine jr rfl ?_
  refine oE (ev_box rfl .agg) rfl ?_; rintro _ _ _ _ ⟨rfl, b1, rfl, rfl⟩
  repeat (first|refine zJ rfl rfl ?_|refine jr rfl ?_|refine jn ?_|refine zM rfl rfl ?_|(refine zC rfl rfl ?_ rfl ?_;omega)|(refine zD rfl rfl ?_ rfl ?_;omega)|(refine zP rfl ?_ rfl ?_;omega)|refine zG rfl rfl rfl rfl ?_|(refine jdq rfl rfl ?_ ?_ ?_;kernel_rfl;kernel_rfl)|refine zB rfl rfl rfl (by repeat constructor) rfl ?_|refine zH .here rfl rfl rfl rfl ?_|refine zH (.there .here) rfl rfl rfl rfl ?_|refine zH (.there (.there .here)) rfl rfl rfl rfl ?_)
  refine oS (ev_load (v := .int .i64 s') rfl rfl (Rdb.ofF (Cells.one h 0 rfl))) rfl ?_
  by_cases hs : s = s'
  · obtain rfl : t = sameE es es' := by rw [ht]; simp [hs]
    repeat (first|refine zJ rfl rfl ?_|refine jr rfl ?_|refine jn ?_|refine zM rfl rfl ?_|(refine zC rfl rfl ?_ rfl ?_;omega)|(refine zD rfl rfl ?_ rfl ?_;omega)|(refine zP rfl ?_ rfl ?_;omega)|refine zG rfl rfl rfl rfl ?_|(refine jdq rfl rfl ?_ ?_ ?_;kernel_rfl;kernel_rfl)|refine zB rfl rfl rfl (by repeat constructor) rfl ?_|refine zH .here rfl rfl rfl rfl ?_|refine zH (.there .here) rfl rfl rfl rfl ?_|refine zH (.there (.there .here)) rfl rfl rfl rfl ?_)
    refine oS (ev_load (v := .slice a' n' c') rfl rfl (Rdb.ofF (Cells.one h 2 rfl))) rfl ?_
    refine oP (bsame_spec _ _ es es' F hr hr') Try.call34 rfl rfl ?_
    repeat (first|refine zJ rfl rfl ?_|refine jr rfl ?_|refine jn ?_|refine zM rfl rfl ?_|(refine zC rfl rfl ?_ rfl ?_;omega)|(refine zD rfl rfl ?_ rfl ?_;omega)|(refine zP rfl ?_ rfl ?_;omega)|refine zG rfl rfl rfl rfl ?_|(refine jdq rfl rfl ?_ ?_ ?_;kernel_rfl;kernel_rfl)|refine zB rfl rfl rfl (by repeat constructor) rfl ?_|refine zH .here rfl rfl rfl rfl ?_|refine zH (.there .here) rfl rfl rfl rfl ?_|refine zH (.there (.there .here)) rfl rfl rfl rfl ?_)
    exact J_retv rfl (.tmp rfl .nil) [] (fun w s => s.drop) (PH.ler _) ⟨rfl, rfl⟩
  · obtain rfl : t = false := by rw [ht]; simp [hs]
    repeat (first|refine zJ rfl rfl ?_|refine jr rfl ?_|refine jn ?_|refine zM rfl rfl ?_|(refine zC rfl rfl ?_ rfl ?_;omega)|(refine zD rfl rfl ?_ rfl ?_;omega)|(refine zP rfl ?_ rfl ?_;omega)|refine zG rfl rfl rfl rfl ?_|(refine jdq rfl rfl ?_ ?_ ?_;kernel_rfl;kernel_rfl)|refine zB rfl rfl rfl (by repeat constructor) rfl ?_|refine zH .here rfl rfl rfl rfl ?_|refine zH (.there .here) rfl rfl rfl rfl ?_|refine zH (.there (.there .here)) rfl rfl rfl rfl ?_)
    exact J_retv rfl (.tmp rfl .nil) [] (fun w s => s.drop) (PH.ler _) ⟨rfl, rfl⟩
end Go.Proofs.Ytmicjjhkoicdnaa
namespace Go.Proofs.Ytmicjjhkoicdnaa
open Go.RowKit
set_option maxRecDepth 100000
def prO (v : Value) (L : List PV) : Asrt := own v 43 3 L.length (rowC PV.cs L)
theorem rowC_snoc (L : List PV) (z : PV) : rowC PV.cs (L ++ [z]) = rowC PV.cs L ++ z.cs := by rw [rowC_append]; simp [rowC]
set_option maxHeartbeats 4000000 in
theorem newer_spec (f : FuncId) (caps : List Value) (h : PrX → Bool) (v : Value) (L : List PV) (x : PV) (F : PH) (hn : L.length ≤ 900) (hL : ∀ y ∈ L, y.Ok F) (hx : x.Ok F) (hcall : ∀ args w, (callFunc f args).run Try.prog w = .ok (.enter f args) w)
    (hs : ∀ y : PV, y.Ok F → Pure Try.prog f (.agg y.cs.toArray :: caps) F (.bool (h y.key))) : Spec Try.prog 32 [v, .agg x.cs.toArray, fnV f caps] F [prO v L] fun u F' H' => ∃ L', H' = [prO u L'] ∧ (∀ y ∈ L', y.Ok F') ∧ L'.map PV.key = newerP h (L.map PV.key) x.key := by
  refine Spec.of3 Try.func32 rfl rfl fun X w0 => ?_
  show J _ _ _ _ (own v 43 3 L.length (rowC PV.cs L) :: X)
  refine jOwnA .here fun a c hv hnc hcm hlen ha => ?_
  subst hv
  refine jc rfl rfl ?_
  refine jr rfl ?_
  refine oE (ev_box rfl .agg) rfl ?_; rintro _ _ _ _ ⟨rfl, b4, rfl, rfl⟩
  repeat (first|refine zJ rfl rfl ?_|refine jr rfl ?_|refine jn ?_|refine zM rfl rfl ?_|(refine zC rfl rfl ?_ rfl ?_;omega)|(refine zD rfl rfl ?_ rfl ?_;omega)|(refine zP rfl ?_ rfl ?_;omega)|refine zG rfl rfl rfl rfl ?_|(refine jdq rfl rfl ?_ ?_ ?_;kernel_rfl;kernel_rfl)|refine zB rfl rfl rfl (by repeat constructor) rfl ?_|refine zH .here rfl rfl rfl rfl ?_|refine zH (.there .here) rfl rfl rfl rfl ?_|refine zH (.there (.there .here)) rfl rfl rfl rfl ?_)
  refine oC (Hc := [own (.slice a L.length c) 43 3 L.length (rowC PV.cs L)]) (Hr := blk b4 43 x.cs :: X) (pidx_spec f caps (fun y => h y.key) a L.length c L F rfl (by omega) ha hcall (fun y hy => hs y (hL y hy))) Try.call47 rfl rfl (fun _ s => s.pm 2 [1, 0] rfl rfl) ?_
  rintro _ _ _ _ ⟨rfl, rfl, rfl⟩
  rcases idx_split (fun y => h y.key) L 0 with ⟨e, hno⟩ | ⟨A, y, B, rfl, e, hy, hA⟩
  · rw [e]
    repeat (first|refine zJ rfl rfl ?_|refine jr rfl ?_|refine jn ?_|refine zM rfl rfl ?_|(refine zC rfl rfl ?_ rfl ?_;omega)|(refine zD rfl rfl ?_ rfl ?_;omega)|(refine zP rfl ?_ rfl ?_;omega)|refine zG rfl rfl rfl rfl ?_|(refine jdq rfl rfl ?_ ?_ ?_;kernel_rfl;kernel_rfl)|refine zB rfl rfl rfl (by repeat constructor) rfl ?_|refine zH .here rfl rfl rfl rfl ?_|refine zH (.there .here) rfl rfl rfl rfl ?_|refine zH (.there (.there .here)) rfl rfl rfl rfl ?_)
    refine oS (ev_load_agg (cs := x.cs) rfl rfl (Rdb.ofB (n := 0) (.there .here) rfl) rfl) rfl ?_
    refine oC (Hc := []) (Hr := own (.slice a L.length c) 43 3 L.length (rowC PV.cs L) :: blk b4 43 x.cs :: X) (twin_spec x F hx) Try.call48 rfl rfl (fun _ s => s) ?_
    rintro u F2 _ hF ⟨rfl, z, rfl, hz, hzk⟩
    refine oE (ev_one rfl .agg z.len elPf) rfl ?_
    rintro _ _ _ _ ⟨rfl, bt, rfl, rfl⟩
    refine oE (ev_append (m := 1) (c := 1) (b := bt) (off := 0) (n := L.length) (xs := rowC PV.cs L) (news := z.cs) (K := fun v' => blk bt 43 z.cs :: own v' 43 3 (L.length + 1) (rowC PV.cs L ++ z.cs) :: blk b4 43 x.cs :: X) rfl rfl elPf (Rdb.ofB (n := 0) .here rfl) rfl z.ones (by omega) (by unfold maxLen; omega) (fun v' => .there .here)) rfl ?_
    rintro u' _ _ _ ⟨rfl, _, rfl⟩
    repeat (first|refine zJ rfl rfl ?_|refine jr rfl ?_|refine jn ?_|refine zM rfl rfl ?_|(refine zC rfl rfl ?_ rfl ?_;omega)|(refine zD rfl rfl ?_ rfl ?_;omega)|(refine zP rfl ?_ rfl ?_;omega)|refine zG rfl rfl rfl rfl ?_|(refine jdq rfl rfl ?_ ?_ ?_;kernel_rfl;kernel_rfl)|refine zB rfl rfl rfl (by repeat constructor) rfl ?_|refine zH .here rfl rfl rfl rfl ?_|refine zH (.there .here) rfl rfl rfl rfl ?_|refine zH (.there (.there .here)) rfl rfl rfl rfl ?_)
    refine J_retv (vs := [u']) rfl (.tmp rfl .nil) [prO u' (L ++ [z])] (fun w s => ?_) hF ⟨L ++ [z], rfl, fun y hy => ?_, ?_⟩
    · unfold prO
      rw [rowC_snoc, List.length_append, List.length_singleton]
      exact ((s.drop).pm 2 [1, 0] rfl rfl).drop
    · rcases List.mem_append.1 hy with hy | hy
      · exact (hL y hy).mono hF
      · obtain rfl := List.mem_singleton.1 hy
        exact hz
    · rw [List.map_append, newer_none (fun y hy => by obtain ⟨y', hy', rfl⟩ := List.mem_map.1 hy; exact hno y' hy'), List.map_singleton, hzk]
  · obtain ⟨b, rfl⟩ := ha (by rw [List.length_append, List.length_cons]; omega)
    have g1 : (A ++ y :: B)[A.length]? = some y := get_mid A y B
    have hAl : A.length < (A ++ y :: B).length := by rw [List.length_append, List.length_cons]; omega
    have hkey : newerP h ((A ++ y :: B).map PV.key) x.key = if y.w < x.w then ((A ++ B).map PV.key) ++ [x.key] else (A ++ y :: B).map PV.key := by
      rw [List.map_append, List.map_cons, newer_some (fun z hz => by obtain ⟨z', hz', rfl⟩ := List.mem_map.1 hz; exact hA z' hz') hy, List.map_append]
      rfl
    rw [e, Int.zero_add]
    generalize hln : (A ++ y :: B).length = n at *
    repeat (first|refine zJ rfl rfl ?_|refine jr rfl ?_|refine jn ?_|refine zM rfl rfl ?_|(refine zC rfl rfl ?_ rfl ?_;omega)|(refine zD rfl rfl ?_ rfl ?_;omega)|(refine zP rfl ?_ rfl ?_;omega)|refine zG rfl rfl rfl rfl ?_|(refine jdq rfl rfl ?_ ?_ ?_;kernel_rfl;kernel_rfl)|refine zB rfl rfl rfl (by repeat constructor) rfl ?_|refine zH .here rfl rfl rfl rfl ?_|refine zH (.there .here) rfl rfl rfl rfl ?_|refine zH (.there (.there .here)) rfl rfl rfl rfl ?_)
    refine oS (ev_indexAddr (i := A.length) rfl rfl rfl (by omega)) rfl ?_
    refine oS (ev_fieldAddr rfl rfl) rfl ?_
    refine oS (ev_load (v := .int .i64 y.w) rfl rfl ((rdb_row .here PV.len g1).take 1 1)) rfl ?_
    by_cases hw : y.w < x.w
    rotate_left
    · rw [if_neg hw] at hkey
      repeat (first|refine zJ rfl rfl ?_|refine jr rfl ?_|refine jn ?_|refine zM rfl rfl ?_|(refine zC rfl rfl ?_ rfl ?_;omega)|(refine zD rfl rfl ?_ rfl ?_;omega)|(refine zP rfl ?_ rfl ?_;omega)|refine zG rfl rfl rfl rfl ?_|(refine jdq rfl rfl ?_ ?_ ?_;kernel_rfl;kernel_rfl)|refine zB rfl rfl rfl (by repeat constructor) rfl ?_|refine zH .here rfl rfl rfl rfl ?_|refine zH (.there .here) rfl rfl rfl rfl ?_|refine zH (.there (.there .here)) rfl rfl rfl rfl ?_)
      refine J_retv (vs := [_]) rfl (.tmp rfl .nil) [prO _ (A ++ y :: B)] (fun w s => ?_) (PH.ler _) ⟨A ++ y :: B, rfl, hL, hkey.symm⟩
      unfold prO
      rw [hln]
      exact (s.pm 2 [1, 0] rfl rfl).drop
    rw [if_pos hw] at hkey
    repeat (first|refine zJ rfl rfl ?_|refine jr rfl ?_|refine jn ?_|refine zM rfl rfl ?_|(refine zC rfl rfl ?_ rfl ?_;omega)|(refine zD rfl rfl ?_ rfl ?_;omega)|(refine zP rfl ?_ rfl ?_;omega)|refine zG rfl rfl rfl rfl ?_|(refine jdq rfl rfl ?_ ?_ ?_;kernel_rfl;kernel_rfl)|refine zB rfl rfl rfl (by repeat constructor) rfl ?_|refine zH .here rfl rfl rfl rfl ?_|refine zH (.there .here) rfl rfl rfl rfl ?_|refine zH (.there (.there .here)) rfl rfl rfl rfl ?_)
    dsimp only [List.cons_append, List.nil_append]
    refine ja F [blk b4 43 x.cs] ?_ (fun w t => (t.pick (.there .here)).head) ?_; kernel_rfl
    refine aT 0 rfl (ev_pv rfl) rfl rfl ?_ ?_ ?_ ?_; kernel_rfl; kernel_rfl; kernel_rfl
    refine aT 1 rfl (ev_pv rfl) rfl rfl ?_ ?_ ?_ ?_; kernel_rfl; kernel_rfl; kernel_rfl
    refine aT 2 rfl (ev_pv rfl) rfl rfl ?_ ?_ ?_ ?_; kernel_rfl; kernel_rfl; kernel_rfl
    refine aT 3 rfl (ea rfl rfl rfl (by dsimp only [InK]; omega)) rfl rfl ?_ ?_ ?_ ?_; kernel_rfl; kernel_rfl; kernel_rfl
    refine aT 5 rfl (ev_load_agg (cs := x.cs) rfl rfl (Rdb.ofB (b := b4) (E := 43) (r := x.cs) (n := 0) .here rfl) rfl) rfl rfl ?_ ?_ ?_ ?_; kernel_rfl; kernel_rfl; kernel_rfl
    refine aB (i := 4) (by kernel_rfl) (aC (Hc := [own (.slice (some ⟨b, 0, none⟩) n c) 43 3 n (rowC PV.cs (A ++ y :: B))]) (Hr := blk b4 43 x.cs :: X) rfl (pdel_spec b n c A y B hln (by omega) hnc F) Try.call36 rfl rfl rfl (fun _ s => s) (fun _ _ _ _ hq w s => by obtain ⟨rfl, _, rfl⟩ := hq; exact (s.pick (.there .here)).head) ?_)
    rintro _ _ _ _ ⟨rfl, rfl, rfl⟩
    refine aB (i := 6) (by kernel_rfl) (aC (Hc := []) (Hr := own (.slice (some ⟨b, 0, none⟩) (n - 1) c) 43 3 (n - 1) (rowC PV.cs (A ++ B)) :: blk b4 43 x.cs :: X) rfl (twin_spec x F hx) Try.call48 rfl rfl rfl (fun _ s => s) (fun _ _ _ hF hq w s => by obtain ⟨rfl, _⟩ := hq; exact ((s.pick (.there .here)).head).mono hF) ?_)
    rintro u F2 _ hF ⟨rfl, z, rfl, hz, hzk⟩
    refine aB (i := 7) (by kernel_rfl) (aE rfl (ev_one rfl .agg z.len elPf) rfl rfl ?_ ?_)
    · rintro _ _ _ _ ⟨rfl, bt, rfl, rfl⟩ w s
      exact ((s.pick (.there (.there .here))).head).mono hF
    rintro _ _ _ _ ⟨rfl, bt, rfl, rfl⟩
    refine aB (i := 8) (by kernel_rfl) (aE rfl (ev_append (m := 1) (c := 1) (b := bt) (off := 0) (n := n - 1) (xs := rowC PV.cs (A ++ B)) (news := z.cs) (K := fun v' => blk bt 43 z.cs :: own v' 43 3 (n - 1 + 1) (rowC PV.cs (A ++ B) ++ z.cs) :: blk b4 43 x.cs :: X) rfl rfl elPf (Rdb.ofB (n := 0) .here rfl) rfl z.ones (by omega) (by unfold maxLen; omega) (fun v' => .there .here)) rfl rfl ?_ ?_)
    · rintro _ _ _ _ ⟨rfl, _, rfl⟩ w s
      exact ((s.pick (.there (.there .here))).head).mono hF
    rintro u' _ _ _ ⟨rfl, _, rfl⟩
    refine aT 9 rfl (ev_pv rfl) rfl rfl ?_ ?_ ?_ ?_; kernel_rfl; kernel_rfl; kernel_rfl
    refine aD (by kernel_rfl) ?_
    repeat (first|refine zJ rfl rfl ?_|refine jr rfl ?_|refine jn ?_|refine zM rfl rfl ?_|(refine zC rfl rfl ?_ rfl ?_;omega)|(refine zD rfl rfl ?_ rfl ?_;omega)|(refine zP rfl ?_ rfl ?_;omega)|refine zG rfl rfl rfl rfl ?_|(refine jdq rfl rfl ?_ ?_ ?_;kernel_rfl;kernel_rfl)|refine zB rfl rfl rfl (by repeat constructor) rfl ?_|refine zH .here rfl rfl rfl rfl ?_|refine zH (.there .here) rfl rfl rfl rfl ?_|refine zH (.there (.there .here)) rfl rfl rfl rfl ?_)
    refine J_retv (vs := [u']) rfl (.tmp rfl .nil) [prO u' ((A ++ B) ++ [z])] (fun w s => ?_) hF ⟨(A ++ B) ++ [z], rfl, fun q hq => ?_, ?_⟩
    · unfold prO
      rw [rowC_snoc, show ((A ++ B) ++ [z]).length = n - 1 + 1 from by rw [← hln]; simp only [List.length_append, List.length_cons, List.length_nil]; omega]
      exact ((s.drop).pm 2 [1, 0] rfl rfl).drop
    · rcases List.mem_append.1 hq with hq | hq
      · exact (hL q (by rcases List.mem_append.1 hq with hq | hq; exact List.mem_append_left _ hq; exact List.mem_append_right _ (List.mem_cons_of_mem _ hq))).mono hF
      · obtain rfl := List.mem_singleton.1 hq
        exact hz
    · rw [List.map_append, List.map_singleton, hzk, hkey]
end Go.Proofs.Ytmicjjhkoicdnaa
