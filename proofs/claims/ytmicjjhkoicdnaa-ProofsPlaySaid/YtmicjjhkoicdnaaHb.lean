/-
  Rows compared, searched, cloned: entries, proofs, points. Conditions are typed with each.
-/
import Derived.Test.YtmicjjhkoicdnaaHa
namespace Go.Proofs.Ytmicjjhkoicdnaa
open Go.RowKit
set_option maxRecDepth 100000
theorem drop_cons {α : Type} {xs : List α} {i : Nat} {x : α} (h : xs[i]? = some x) : xs.drop i = x :: xs.drop (i + 1) := by
  obtain ⟨hlt, rfl⟩ := List.getElem?_eq_some_iff.1 h
  exact List.drop_eq_getElem_cons hlt
/-- Where the first one is, from n on; -1: none. -/
def idxP {α : Type} (h : α → Bool) : List α → Int → Int
  | [], _ => -1
  | y :: r, n => if h y then n else idxP h r (n + 1)
theorem idxP_cons {α : Type} (h : α → Bool) (y : α) (r : List α) (n : Int) : idxP h (y :: r) n = if h y then n else idxP h r (n + 1) := rfl
theorem idxP_nil {α : Type} (h : α → Bool) (n : Int) : idxP h [] n = -1 := rfl
theorem idxP_nn {α : Type} (h : α → Bool) : ∀ (ys : List α) (n : Int), 0 ≤ n → decide (0 ≤ idxP h ys n) = ys.any h
  | [], n, hn => by simp [idxP]
  | y :: r, n, hn => by
    unfold idxP
    cases hy : h y with
    | true => simp [hy, hn]
    | false => simp [hy]; simpa using idxP_nn h r (n + 1) (by omega)
def sameE (a b : List EntX) : Bool := decide (a = b)
set_option maxHeartbeats 4000000 in
theorem equal_spec (v v' : Value) (es es' : List EntX) (F : PH) (h : RowB tyEn F v es) (h' : RowB tyEn F v' es') : Pure Try.prog 49 [v, v'] F (.bool (sameE es es')) := by
  obtain ⟨a, c, rfl, hc, hb⟩ := h.form
  obtain ⟨a', c', rfl, hc', hb'⟩ := h'.form
  unfold sameE
  refine Spec.of2 Try.func49 rfl rfl fun X w0 => ?_
  by_cases hn : es.length = es'.length
  · repeat (first|refine zJ rfl rfl ?_|refine jr rfl ?_|refine jn ?_|refine zM rfl rfl ?_|(refine zC rfl rfl ?_ rfl ?_;omega)|(refine zD rfl rfl ?_ rfl ?_;omega)|(refine zP rfl ?_ rfl ?_;omega)|refine zG rfl rfl rfl rfl ?_|(refine jdq rfl rfl ?_ ?_ ?_;kernel_rfl;kernel_rfl)|refine zB rfl rfl rfl (by repeat constructor) rfl ?_|refine zH .here rfl rfl rfl rfl ?_|refine zH (.there .here) rfl rfl rfl rfl ?_|refine zH (.there (.there .here)) rfl rfl rfl rfl ?_)
    refine J_loop (ι := Nat) (fun j => j ≤ es.length ∧ es.take j = es'.take j) (fun j => es.length - j) (fun j => [(0, .slice a es.length c), (1, .slice a' es'.length c'), (12, .int .i64 es.length), (13, .int .i64 j)]) (fun _ => F) (fun _ => X) 0 ⟨Nat.zero_le _, rfl⟩
      ⟨⟨rfl, rfl, rfl, rfl, trivial⟩, fun _ h => h⟩ ?_
    rintro j ⟨hj, heq⟩
    by_cases hlt : j < es.length
    · have hlt2 : j < es'.length := by omega
      have g1 : es[j]? = some es[j] := List.getElem?_eq_getElem hlt
      have g2 : es'[j]? = some es'[j] := List.getElem?_eq_getElem hlt2
      obtain ⟨b1, o1, c1, rfl, hc1, hr1, _⟩ := h.1.at g1
      obtain ⟨b2, o2, c2, rfl, hc2, hr2, _⟩ := h'.1.at g2
      obtain rfl := en_of hr1
      obtain rfl := en_of hr2
      repeat (first|refine zJ rfl rfl ?_|refine jr rfl ?_|refine jn ?_|refine zM rfl rfl ?_|(refine zC rfl rfl ?_ rfl ?_;omega)|(refine zD rfl rfl ?_ rfl ?_;omega)|(refine zP rfl ?_ rfl ?_;omega)|refine zG rfl rfl rfl rfl ?_|(refine jdq rfl rfl ?_ ?_ ?_;kernel_rfl;kernel_rfl)|refine zB rfl rfl rfl (by repeat constructor) rfl ?_|refine zH .here rfl rfl rfl rfl ?_|refine zH (.there .here) rfl rfl rfl rfl ?_|refine zH (.there (.there .here)) rfl rfl rfl rfl ?_)
      refine oS (ev_indexAddr rfl rfl rfl hlt) rfl ?_
      refine oS (ev_load_agg rfl rfl (Rdb.ofF hc1) rfl) rfl ?_
      repeat (first|refine zJ rfl rfl ?_|refine jr rfl ?_|refine jn ?_|refine zM rfl rfl ?_|(refine zC rfl rfl ?_ rfl ?_;omega)|(refine zD rfl rfl ?_ rfl ?_;omega)|(refine zP rfl ?_ rfl ?_;omega)|refine zG rfl rfl rfl rfl ?_|(refine jdq rfl rfl ?_ ?_ ?_;kernel_rfl;kernel_rfl)|refine zB rfl rfl rfl (by repeat constructor) rfl ?_|refine zH .here rfl rfl rfl rfl ?_|refine zH (.there .here) rfl rfl rfl rfl ?_|refine zH (.there (.there .here)) rfl rfl rfl rfl ?_)
      refine oS (ev_indexAddr rfl rfl rfl hlt2) rfl ?_
      refine oS (ev_load_agg rfl rfl (Rdb.ofF hc2) rfl) rfl ?_
      refine oS (ev_en_neq rfl rfl) rfl ?_
      by_cases he : es[j] = es'[j]
      · rw [decide_eq_true he]
        repeat (first|refine zJ rfl rfl ?_|refine jr rfl ?_|refine jn ?_|refine zM rfl rfl ?_|(refine zC rfl rfl ?_ rfl ?_;omega)|(refine zD rfl rfl ?_ rfl ?_;omega)|(refine zP rfl ?_ rfl ?_;omega)|refine zG rfl rfl rfl rfl ?_|(refine jdq rfl rfl ?_ ?_ ?_;kernel_rfl;kernel_rfl)|refine zB rfl rfl rfl (by repeat constructor) rfl ?_|refine zH .here rfl rfl rfl rfl ?_|refine zH (.there .here) rfl rfl rfl rfl ?_|refine zH (.there (.there .here)) rfl rfl rfl rfl ?_)
        refine J_again (j + 1) ⟨hlt, by rw [List.take_add_one, List.take_add_one, g1, g2, heq, he]⟩ (by omega) ⟨⟨rfl, rfl, rfl, rfl, trivial⟩, fun w s => s⟩
      · rw [decide_eq_false he]
        have hne : ¬ es = es' := fun e => he (by subst e; rfl)
        rw [decide_eq_false hne]
        repeat (first|refine zJ rfl rfl ?_|refine jr rfl ?_|refine jn ?_|refine zM rfl rfl ?_|(refine zC rfl rfl ?_ rfl ?_;omega)|(refine zD rfl rfl ?_ rfl ?_;omega)|(refine zP rfl ?_ rfl ?_;omega)|refine zG rfl rfl rfl rfl ?_|(refine jdq rfl rfl ?_ ?_ ?_;kernel_rfl;kernel_rfl)|refine zB rfl rfl rfl (by repeat constructor) rfl ?_|refine zH .here rfl rfl rfl rfl ?_|refine zH (.there .here) rfl rfl rfl rfl ?_|refine zH (.there (.there .here)) rfl rfl rfl rfl ?_)
        exact J_ret1 rfl rfl [] rfl (PH.ler _) ⟨rfl, rfl⟩
    · have e : es = es' := by
        rwa [List.take_of_length_le (by omega), List.take_of_length_le (by omega)] at heq
      rw [decide_eq_true e]
      repeat (first|refine zJ rfl rfl ?_|refine jr rfl ?_|refine jn ?_|refine zM rfl rfl ?_|(refine zC rfl rfl ?_ rfl ?_;omega)|(refine zD rfl rfl ?_ rfl ?_;omega)|(refine zP rfl ?_ rfl ?_;omega)|refine zG rfl rfl rfl rfl ?_|(refine jdq rfl rfl ?_ ?_ ?_;kernel_rfl;kernel_rfl)|refine zB rfl rfl rfl (by repeat constructor) rfl ?_|refine zH .here rfl rfl rfl rfl ?_|refine zH (.there .here) rfl rfl rfl rfl ?_|refine zH (.there (.there .here)) rfl rfl rfl rfl ?_)
      exact J_ret1 rfl rfl [] rfl (PH.ler _) ⟨rfl, rfl⟩
  · have hne : ¬ es = es' := fun e => hn (by rw [e])
    rw [decide_eq_false hne]
    repeat (first|refine zJ rfl rfl ?_|refine jr rfl ?_|refine jn ?_|refine zM rfl rfl ?_|(refine zC rfl rfl ?_ rfl ?_;omega)|(refine zD rfl rfl ?_ rfl ?_;omega)|(refine zP rfl ?_ rfl ?_;omega)|refine zG rfl rfl rfl rfl ?_|(refine jdq rfl rfl ?_ ?_ ?_;kernel_rfl;kernel_rfl)|refine zB rfl rfl rfl (by repeat constructor) rfl ?_|refine zH .here rfl rfl rfl rfl ?_|refine zH (.there .here) rfl rfl rfl rfl ?_|refine zH (.there (.there .here)) rfl rfl rfl rfl ?_)
    exact J_ret1 rfl rfl [] rfl (PH.ler _) ⟨rfl, rfl⟩
theorem bsame_spec (v v' : Value) (es es' : List EntX) (F : PH) (h : RowB tyEn F v es) (h' : RowB tyEn F v' es') : Pure Try.prog 34 [v, v'] F (.bool (sameE es es')) := by
  refine Spec.of2 Try.func34 rfl rfl fun X w0 => ?_
  repeat (first|refine zJ rfl rfl ?_|refine jr rfl ?_|refine jn ?_|refine zM rfl rfl ?_|(refine zC rfl rfl ?_ rfl ?_;omega)|(refine zD rfl rfl ?_ rfl ?_;omega)|(refine zP rfl ?_ rfl ?_;omega)|refine zG rfl rfl rfl rfl ?_|(refine jdq rfl rfl ?_ ?_ ?_;kernel_rfl;kernel_rfl)|refine zB rfl rfl rfl (by repeat constructor) rfl ?_|refine zH .here rfl rfl rfl rfl ?_|refine zH (.there .here) rfl rfl rfl rfl ?_|refine zH (.there (.there .here)) rfl rfl rfl rfl ?_)
  refine oP (equal_spec v v' es es' F h h') Try.call49 rfl rfl ?_
  repeat (first|refine zJ rfl rfl ?_|refine jr rfl ?_|refine jn ?_|refine zM rfl rfl ?_|(refine zC rfl rfl ?_ rfl ?_;omega)|(refine zD rfl rfl ?_ rfl ?_;omega)|(refine zP rfl ?_ rfl ?_;omega)|refine zG rfl rfl rfl rfl ?_|(refine jdq rfl rfl ?_ ?_ ?_;kernel_rfl;kernel_rfl)|refine zB rfl rfl rfl (by repeat constructor) rfl ?_|refine zH .here rfl rfl rfl rfl ?_|refine zH (.there .here) rfl rfl rfl rfl ?_|refine zH (.there (.there .here)) rfl rfl rfl rfl ?_)
  exact J_ret1 rfl rfl [] rfl (PH.ler _) ⟨rfl, rfl⟩
set_option maxHeartbeats 4000000 in
theorem rsame_spec (v v' : Value) (es es' : List EntX) (F : PH) (h : RowB tyEn F v es) (h' : RowB tyEn F v' es') : Pure Try.prog 40 [v, v'] F (.bool (sameE es es')) := by
  obtain ⟨a, c, rfl, hc, hb⟩ := h.form
  obtain ⟨a', c', rfl, hc', hb'⟩ := h'.form
  unfold sameE
  refine Spec.of2 Try.func40 rfl rfl fun X w0 => ?_
  by_cases hn : es.length = es'.length
  · repeat (first|refine zJ rfl rfl ?_|refine jr rfl ?_|refine jn ?_|refine zM rfl rfl ?_|(refine zC rfl rfl ?_ rfl ?_;omega)|(refine zD rfl rfl ?_ rfl ?_;omega)|(refine zP rfl ?_ rfl ?_;omega)|refine zG rfl rfl rfl rfl ?_|(refine jdq rfl rfl ?_ ?_ ?_;kernel_rfl;kernel_rfl)|refine zB rfl rfl rfl (by repeat constructor) rfl ?_|refine zH .here rfl rfl rfl rfl ?_|refine zH (.there .here) rfl rfl rfl rfl ?_|refine zH (.there (.there .here)) rfl rfl rfl rfl ?_)
    refine J_loop (ι := Nat) (fun j => j ≤ es.length ∧ es.take j = es'.take j) (fun j => es.length - j) (fun j => [(0, .slice a es.length c), (1, .slice a' es'.length c'), (12, .int .i64 es.length), (13, .int .i64 j)]) (fun _ => F) (fun _ => X) 0 ⟨Nat.zero_le _, rfl⟩
      ⟨⟨rfl, rfl, rfl, rfl, trivial⟩, fun _ h => h⟩ ?_
    rintro j ⟨hj, heq⟩
    by_cases hlt : j < es.length
    · have hlt2 : j < es'.length := by omega
      have g1 : es[j]? = some es[j] := List.getElem?_eq_getElem hlt
      have g2 : es'[j]? = some es'[j] := List.getElem?_eq_getElem hlt2
      obtain ⟨b1, o1, c1, rfl, hc1, hr1, _⟩ := h.1.at g1
      obtain ⟨b2, o2, c2, rfl, hc2, hr2, _⟩ := h'.1.at g2
      obtain rfl := en_of hr1
      obtain rfl := en_of hr2
      repeat (first|refine zJ rfl rfl ?_|refine jr rfl ?_|refine jn ?_|refine zM rfl rfl ?_|(refine zC rfl rfl ?_ rfl ?_;omega)|(refine zD rfl rfl ?_ rfl ?_;omega)|(refine zP rfl ?_ rfl ?_;omega)|refine zG rfl rfl rfl rfl ?_|(refine jdq rfl rfl ?_ ?_ ?_;kernel_rfl;kernel_rfl)|refine zB rfl rfl rfl (by repeat constructor) rfl ?_|refine zH .here rfl rfl rfl rfl ?_|refine zH (.there .here) rfl rfl rfl rfl ?_|refine zH (.there (.there .here)) rfl rfl rfl rfl ?_)
      refine oS (ev_indexAddr rfl rfl rfl hlt) rfl ?_
      refine oS (ev_load_agg rfl rfl (Rdb.ofF hc1) rfl) rfl ?_
      repeat (first|refine zJ rfl rfl ?_|refine jr rfl ?_|refine jn ?_|refine zM rfl rfl ?_|(refine zC rfl rfl ?_ rfl ?_;omega)|(refine zD rfl rfl ?_ rfl ?_;omega)|(refine zP rfl ?_ rfl ?_;omega)|refine zG rfl rfl rfl rfl ?_|(refine jdq rfl rfl ?_ ?_ ?_;kernel_rfl;kernel_rfl)|refine zB rfl rfl rfl (by repeat constructor) rfl ?_|refine zH .here rfl rfl rfl rfl ?_|refine zH (.there .here) rfl rfl rfl rfl ?_|refine zH (.there (.there .here)) rfl rfl rfl rfl ?_)
      refine oS (ev_indexAddr rfl rfl rfl hlt2) rfl ?_
      refine oS (ev_load_agg rfl rfl (Rdb.ofF hc2) rfl) rfl ?_
      refine oS (ev_en_neq rfl rfl) rfl ?_
      by_cases he : es[j] = es'[j]
      · rw [decide_eq_true he]
        repeat (first|refine zJ rfl rfl ?_|refine jr rfl ?_|refine jn ?_|refine zM rfl rfl ?_|(refine zC rfl rfl ?_ rfl ?_;omega)|(refine zD rfl rfl ?_ rfl ?_;omega)|(refine zP rfl ?_ rfl ?_;omega)|refine zG rfl rfl rfl rfl ?_|(refine jdq rfl rfl ?_ ?_ ?_;kernel_rfl;kernel_rfl)|refine zB rfl rfl rfl (by repeat constructor) rfl ?_|refine zH .here rfl rfl rfl rfl ?_|refine zH (.there .here) rfl rfl rfl rfl ?_|refine zH (.there (.there .here)) rfl rfl rfl rfl ?_)
        refine J_again (j + 1) ⟨hlt, by rw [List.take_add_one, List.take_add_one, g1, g2, heq, he]⟩ (by omega) ⟨⟨rfl, rfl, rfl, rfl, trivial⟩, fun w s => s⟩
      · rw [decide_eq_false he]
        have hne : ¬ es = es' := fun e => he (by subst e; rfl)
        rw [decide_eq_false hne]
        repeat (first|refine zJ rfl rfl ?_|refine jr rfl ?_|refine jn ?_|refine zM rfl rfl ?_|(refine zC rfl rfl ?_ rfl ?_;omega)|(refine zD rfl rfl ?_ rfl ?_;omega)|(refine zP rfl ?_ rfl ?_;omega)|refine zG rfl rfl rfl rfl ?_|(refine jdq rfl rfl ?_ ?_ ?_;kernel_rfl;kernel_rfl)|refine zB rfl rfl rfl (by repeat constructor) rfl ?_|refine zH .here rfl rfl rfl rfl ?_|refine zH (.there .here) rfl rfl rfl rfl ?_|refine zH (.there (.there .here)) rfl rfl rfl rfl ?_)
        exact J_ret1 rfl rfl [] rfl (PH.ler _) ⟨rfl, rfl⟩
    · have e : es = es' := by
        rwa [List.take_of_length_le (by omega), List.take_of_length_le (by omega)] at heq
      rw [decide_eq_true e]
      repeat (first|refine zJ rfl rfl ?_|refine jr rfl ?_|refine jn ?_|refine zM rfl rfl ?_|(refine zC rfl rfl ?_ rfl ?_;omega)|(refine zD rfl rfl ?_ rfl ?_;omega)|(refine zP rfl ?_ rfl ?_;omega)|refine zG rfl rfl rfl rfl ?_|(refine jdq rfl rfl ?_ ?_ ?_;kernel_rfl;kernel_rfl)|refine zB rfl rfl rfl (by repeat constructor) rfl ?_|refine zH .here rfl rfl rfl rfl ?_|refine zH (.there .here) rfl rfl rfl rfl ?_|refine zH (.there (.there .here)) rfl rfl rfl rfl ?_)
      exact J_ret1 rfl rfl [] rfl (PH.ler _) ⟨rfl, rfl⟩
  · have hne : ¬ es = es' := fun e => hn (by rw [e])
    rw [decide_eq_false hne]
    repeat (first|refine zJ rfl rfl ?_|refine jr rfl ?_|refine jn ?_|refine zM rfl rfl ?_|(refine zC rfl rfl ?_ rfl ?_;omega)|(refine zD rfl rfl ?_ rfl ?_;omega)|(refine zP rfl ?_ rfl ?_;omega)|refine zG rfl rfl rfl rfl ?_|(refine jdq rfl rfl ?_ ?_ ?_;kernel_rfl;kernel_rfl)|refine zB rfl rfl rfl (by repeat constructor) rfl ?_|refine zH .here rfl rfl rfl rfl ?_|refine zH (.there .here) rfl rfl rfl rfl ?_|refine zH (.there (.there .here)) rfl rfl rfl rfl ?_)
    exact J_ret1 rfl rfl [] rfl (PH.ler _) ⟨rfl, rfl⟩
set_option maxHeartbeats 4000000 in
theorem idxF_spec (f : FuncId) (caps : List Value) (h : PrX → Bool) (v : Value) (ys : List PrX) (F : PH) (hr : RowB tyPr F v ys) (hcall : ∀ args w, (callFunc f args).run Try.prog w = .ok (.enter f args) w)
    (hs : ∀ y cs, y ∈ ys → tyPr.rep F y cs → Pure Try.prog f (.agg cs.toArray :: caps) F (.bool (h y))) : Pure Try.prog 47 [v, fnV f caps] F (.int .i64 (idxP h ys 0)) := by
  obtain ⟨a, c, rfl, hc, hb⟩ := hr.form
  refine Spec.of2 Try.func47 rfl rfl fun X w0 => ?_
  repeat (first|refine zJ rfl rfl ?_|refine jr rfl ?_|refine jn ?_|refine zM rfl rfl ?_|(refine zC rfl rfl ?_ rfl ?_;omega)|(refine zD rfl rfl ?_ rfl ?_;omega)|(refine zP rfl ?_ rfl ?_;omega)|refine zG rfl rfl rfl rfl ?_|(refine jdq rfl rfl ?_ ?_ ?_;kernel_rfl;kernel_rfl)|refine zB rfl rfl rfl (by repeat constructor) rfl ?_|refine zH .here rfl rfl rfl rfl ?_|refine zH (.there .here) rfl rfl rfl rfl ?_|refine zH (.there (.there .here)) rfl rfl rfl rfl ?_)
  refine J_loop (ι := Nat) (fun j => j ≤ ys.length ∧ idxP h ys 0 = idxP h (ys.drop j) j) (fun j => ys.length - j) (fun j => [(0, .slice a ys.length c), (1, fnV f caps), (7, .int .i64 ys.length), (8, .int .i64 j)]) (fun _ => F) (fun _ => X) 0 ⟨Nat.zero_le _, rfl⟩
    ⟨⟨rfl, rfl, rfl, rfl, trivial⟩, fun _ h => h⟩ ?_
  rintro j ⟨hj, heq⟩
  by_cases hlt : j < ys.length
  · have g1 : ys[j]? = some ys[j] := List.getElem?_eq_getElem hlt
    obtain ⟨b1, o1, c1, rfl, hc1, hr1, _⟩ := hr.1.at g1
    have hcl := hs _ _ (List.getElem_mem hlt) hr1
    rw [drop_cons g1, idxP_cons] at heq
    obtain ⟨vv, hcs, _⟩ := pr_of hr1
    generalize ys[j] = y at *
    repeat (first|refine zJ rfl rfl ?_|refine jr rfl ?_|refine jn ?_|refine zM rfl rfl ?_|(refine zC rfl rfl ?_ rfl ?_;omega)|(refine zD rfl rfl ?_ rfl ?_;omega)|(refine zP rfl ?_ rfl ?_;omega)|refine zG rfl rfl rfl rfl ?_|(refine jdq rfl rfl ?_ ?_ ?_;kernel_rfl;kernel_rfl)|refine zB rfl rfl rfl (by repeat constructor) rfl ?_|refine zH .here rfl rfl rfl rfl ?_|refine zH (.there .here) rfl rfl rfl rfl ?_|refine zH (.there (.there .here)) rfl rfl rfl rfl ?_)
    refine oS (ev_indexAddr rfl rfl rfl hlt) rfl ?_
    refine oS (ev_load_agg (n := 3) rfl rfl (Rdb.ofF hc1) (by rw [hcs]; rfl)) rfl ?_
    refine oPF rfl hcl hcall rfl rfl ?_
    cases hy : h y with
    | true =>
      rw [if_pos hy] at heq
      repeat (first|refine zJ rfl rfl ?_|refine jr rfl ?_|refine jn ?_|refine zM rfl rfl ?_|(refine zC rfl rfl ?_ rfl ?_;omega)|(refine zD rfl rfl ?_ rfl ?_;omega)|(refine zP rfl ?_ rfl ?_;omega)|refine zG rfl rfl rfl rfl ?_|(refine jdq rfl rfl ?_ ?_ ?_;kernel_rfl;kernel_rfl)|refine zB rfl rfl rfl (by repeat constructor) rfl ?_|refine zH .here rfl rfl rfl rfl ?_|refine zH (.there .here) rfl rfl rfl rfl ?_|refine zH (.there (.there .here)) rfl rfl rfl rfl ?_)
      rw [heq]
      exact J_ret1 rfl rfl [] rfl (PH.ler _) ⟨rfl, rfl⟩
    | false =>
      rw [if_neg (by rw [hy]; decide)] at heq
      repeat (first|refine zJ rfl rfl ?_|refine jr rfl ?_|refine jn ?_|refine zM rfl rfl ?_|(refine zC rfl rfl ?_ rfl ?_;omega)|(refine zD rfl rfl ?_ rfl ?_;omega)|(refine zP rfl ?_ rfl ?_;omega)|refine zG rfl rfl rfl rfl ?_|(refine jdq rfl rfl ?_ ?_ ?_;kernel_rfl;kernel_rfl)|refine zB rfl rfl rfl (by repeat constructor) rfl ?_|refine zH .here rfl rfl rfl rfl ?_|refine zH (.there .here) rfl rfl rfl rfl ?_|refine zH (.there (.there .here)) rfl rfl rfl rfl ?_)
      exact J_again (j + 1) ⟨hlt, by rw [heq]; rfl⟩ (by omega) ⟨⟨rfl, rfl, rfl, rfl, trivial⟩, fun w s => s⟩
  · obtain rfl : j = ys.length := by omega
    rw [List.drop_length, idxP_nil] at heq
    rw [heq]
    repeat (first|refine zJ rfl rfl ?_|refine jr rfl ?_|refine jn ?_|refine zM rfl rfl ?_|(refine zC rfl rfl ?_ rfl ?_;omega)|(refine zD rfl rfl ?_ rfl ?_;omega)|(refine zP rfl ?_ rfl ?_;omega)|refine zG rfl rfl rfl rfl ?_|(refine jdq rfl rfl ?_ ?_ ?_;kernel_rfl;kernel_rfl)|refine zB rfl rfl rfl (by repeat constructor) rfl ?_|refine zH .here rfl rfl rfl rfl ?_|refine zH (.there .here) rfl rfl rfl rfl ?_|refine zH (.there (.there .here)) rfl rfl rfl rfl ?_)
    exact J_ret1 rfl rfl [] rfl (PH.ler _) ⟨rfl, rfl⟩
end Go.Proofs.Ytmicjjhkoicdnaa
