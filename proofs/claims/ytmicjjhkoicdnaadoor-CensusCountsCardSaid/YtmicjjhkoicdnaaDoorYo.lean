/-
  The document's lines. Conditions are typed with each.
  What comes in: sendings; sums of counts. Conditions are typed with each.
  How the crowd and the list of all that was sent are built. Conditions are typed with each.
-/
import Derived.Test.YtmicjjhkoicdnaaDoorYl
import Derived.Test.YtmicjjhkoicdnaaDoorCensusNames
namespace Go.Proofs.YtmicjjhkoicdnaaDoor
open Go.RowKit
set_option maxRecDepth 100000
theorem ofQ_kind {k : Int} (hk : 0 ≤ k) : ofQ k (-1) 0 = at_ kindK k := by
  funext x
  have h := ofQ_iff (kind := k) (from_ := -1) (to := 0) (x := x)
  by_cases e : kindK x = k
  · rw [h.2 ⟨.inr e, .inl (by omega)⟩]; simp [at_, e]
  · have : ¬ ofQ k (-1) 0 x = true := fun hq => by have := (h.1 hq).1; omega
    rw [Bool.not_eq_true] at this
    rw [this]; simp [at_, e]
set_option maxHeartbeats 16000000 in
theorem refLines_spec (v : Value) (xs : List SentX) (rows : List (List Value)) (F : PH) (hv : SliceV F 6 v xs.length rows.flatten) (hn : xs.length ≤ 16384) (hl : rows.length = xs.length) (h : ∀ (i : Nat) (x : SentX) (r : List Value), xs[i]? = some x → rows[i]? = some r → SentOk F x r) (hall : ∀ x ∈ xs, x.size ≤ 40000) :
    Spec Tryd.prog 19 [v] F [] fun u _ H' => H' = [own u 9 1 (lineS xs 13).length (strC (lineS xs 13))] := by
  refine Spec.of1 Tryd.func19 rfl rfl fun X w0 => ?_
  repeat (first|refine zJ rfl rfl ?_|refine jr rfl ?_|refine jn ?_|refine zM rfl rfl ?_|(refine zC rfl rfl ?_ rfl ?_;omega)|(refine zD rfl rfl ?_ rfl ?_;omega)|(refine zP rfl ?_ rfl ?_;omega)|refine zG rfl rfl rfl rfl ?_|(refine jdq rfl rfl ?_ ?_ ?_;kernel_rfl;kernel_rfl)|refine zB rfl rfl rfl (by repeat constructor) rfl ?_|refine zH .here rfl rfl rfl rfl ?_|refine zH (.there .here) rfl rfl rfl rfl ?_|refine zH (.there (.there .here)) rfl rfl rfl rfl ?_|refine zH (.there (.there (.there .here))) rfl rfl rfl rfl ?_|refine zH (.there (.there (.there (.there .here)))) rfl rfl rfl rfl ?_)
  refine J_own_nil 9 1 ?_
  refine J_loop2 (fun (k : Nat) (u : Value) => 1 ≤ k ∧ k ≤ 13) (fun k _ => 13 - k) (fun k u => [(0, v), (3, u), (4, .int .i64 k)]) (fun _ _ => F)
    (fun k u => own u 9 1 (lineS xs k).length (strC (lineS xs k)) :: X) 1 (.slice none 0 0) ⟨by omega, by omega⟩ ⟨⟨rfl, rfl, rfl, trivial⟩, fun w s => s⟩ ?_
  rintro j u ⟨hj1, hj⟩
  by_cases hlt : j < 13
  · have hbd := tot_le (at_ kindK (j : Int)) xs hall
    have hnext : lineS xs (j + 1) = if 0 < j ∧ 0 < (kTot xs j).1 then lineS xs j ++ [lineOf xs j] else lineS xs j := rfl
    have hline : lineOf xs j = nmOf j ++ [32] ++ Lib.itoa ((kTot xs j).1 : Int) ++ [32] ++ Lib.itoa ((kTot xs j).2 : Int) := rfl
    have hll := lineS_len xs j
    have hof := of_spec v xs rows (j : Int) (-1) 0 F hv hn hl h
    rw [ofQ_kind (by omega)] at hof
    change (kTot xs j).1 ≤ _ ∧ (kTot xs j).2 ≤ _ at hbd
    change Spec _ _ _ _ _ (fun u _ H' => u = .tuple #[.int .i64 (kTot xs j).1, .int .i64 (kTot xs j).2] ∧ H' = []) at hof
    generalize hr : lineS xs (j + 1) = r' at hnext
    generalize lineS xs j = r at *
    generalize lineOf xs j = ln at *
    generalize kTot xs j = y at *
    obtain ⟨m, z⟩ := y
    dsimp only at *
    repeat (first|refine zJ rfl rfl ?_|refine jr rfl ?_|refine jn ?_|refine zM rfl rfl ?_|(refine zC rfl rfl ?_ rfl ?_;omega)|(refine zD rfl rfl ?_ rfl ?_;omega)|(refine zP rfl ?_ rfl ?_;omega)|refine zG rfl rfl rfl rfl ?_|(refine jdq rfl rfl ?_ ?_ ?_;kernel_rfl;kernel_rfl)|refine zB rfl rfl rfl (by repeat constructor) rfl ?_|refine zH .here rfl rfl rfl rfl ?_|refine zH (.there .here) rfl rfl rfl rfl ?_|refine zH (.there (.there .here)) rfl rfl rfl rfl ?_|refine zH (.there (.there (.there .here))) rfl rfl rfl rfl ?_|refine zH (.there (.there (.there (.there .here)))) rfl rfl rfl rfl ?_)
    refine oC (Hc := []) (Hr := own u 9 1 r.length (strC r) :: X) hof Tryd.call14 rfl rfl (fun _ s => s) ?_
    rintro _ F1 _ hF1 ⟨rfl, rfl⟩
    refine oW (F' := F) (H' := own u 9 1 r.length (strC r) :: X) ?_ (fun w s => s.mono hF1)
    by_cases h2 : 0 < m
    · rw [if_pos ⟨by omega, h2⟩] at hnext
      subst hnext
      have hn1 := nmOf_len j
      have hm1 := Lib.itoa_length_le (m : Int) (by omega) (by omega)
      have hz1 := Lib.itoa_length_le (z : Int) (by omega) (by omega)
      repeat (first|refine zJ rfl rfl ?_|refine jr rfl ?_|refine jn ?_|refine zM rfl rfl ?_|(refine zC rfl rfl ?_ rfl ?_;omega)|(refine zD rfl rfl ?_ rfl ?_;omega)|(refine zP rfl ?_ rfl ?_;omega)|refine zG rfl rfl rfl rfl ?_|(refine jdq rfl rfl ?_ ?_ ?_;kernel_rfl;kernel_rfl)|refine zB rfl rfl rfl (by repeat constructor) rfl ?_|refine zH .here rfl rfl rfl rfl ?_|refine zH (.there .here) rfl rfl rfl rfl ?_|refine zH (.there (.there .here)) rfl rfl rfl rfl ?_|refine zH (.there (.there (.there .here))) rfl rfl rfl rfl ?_|refine zH (.there (.there (.there (.there .here)))) rfl rfl rfl rfl ?_)
      refine oP (refName_spec j F) Tryd.call9 rfl rfl ?_
      refine oS (ev_cat (b := [32]) rfl rfl (by simp; omega)) rfl ?_
      repeat (first|refine zJ rfl rfl ?_|refine jr rfl ?_|refine jn ?_|refine zM rfl rfl ?_|(refine zC rfl rfl ?_ rfl ?_;omega)|(refine zD rfl rfl ?_ rfl ?_;omega)|(refine zP rfl ?_ rfl ?_;omega)|refine zG rfl rfl rfl rfl ?_|(refine jdq rfl rfl ?_ ?_ ?_;kernel_rfl;kernel_rfl)|refine zB rfl rfl rfl (by repeat constructor) rfl ?_|refine zH .here rfl rfl rfl rfl ?_|refine zH (.there .here) rfl rfl rfl rfl ?_|refine zH (.there (.there .here)) rfl rfl rfl rfl ?_|refine zH (.there (.there (.there .here))) rfl rfl rfl rfl ?_|refine zH (.there (.there (.there (.there .here)))) rfl rfl rfl rfl ?_)
      refine oP (digits_spec m F (by omega)) Tryd.call31 rfl rfl ?_
      refine oS (ev_cat rfl rfl (by simp; omega)) rfl ?_
      refine oS (ev_cat (b := [32]) rfl rfl (by simp; omega)) rfl ?_
      repeat (first|refine zJ rfl rfl ?_|refine jr rfl ?_|refine jn ?_|refine zM rfl rfl ?_|(refine zC rfl rfl ?_ rfl ?_;omega)|(refine zD rfl rfl ?_ rfl ?_;omega)|(refine zP rfl ?_ rfl ?_;omega)|refine zG rfl rfl rfl rfl ?_|(refine jdq rfl rfl ?_ ?_ ?_;kernel_rfl;kernel_rfl)|refine zB rfl rfl rfl (by repeat constructor) rfl ?_|refine zH .here rfl rfl rfl rfl ?_|refine zH (.there .here) rfl rfl rfl rfl ?_|refine zH (.there (.there .here)) rfl rfl rfl rfl ?_|refine zH (.there (.there (.there .here))) rfl rfl rfl rfl ?_|refine zH (.there (.there (.there (.there .here)))) rfl rfl rfl rfl ?_)
      refine oP (digits_spec z F (by omega)) Tryd.call31 rfl rfl ?_
      refine oS (ev_cat rfl rfl (by simp; omega)) rfl ?_
      rw [← hline]
      refine oE (ev_one rfl .string rfl elStr) rfl ?_
      rintro _ _ _ _ ⟨rfl, bt, rfl, rfl⟩
      refine oE (ev_append (m := 1) (c := 1) (b := bt) (off := 0) (K := fun v' => blk bt 9 [.string (strOf ln)] :: own v' 9 1 (r.length + 1) (strC r ++ [.string (strOf ln)]) :: X) rfl rfl elStr (Rdb.ofB (n := 0) .here rfl) rfl (ones_cons rfl ones_nil) (by omega) (by unfold maxLen; omega) (fun v' => .there .here)) rfl ?_
      rintro u' _ _ _ ⟨rfl, _, rfl⟩
      repeat (first|refine zJ rfl rfl ?_|refine jr rfl ?_|refine jn ?_|refine zM rfl rfl ?_|(refine zC rfl rfl ?_ rfl ?_;omega)|(refine zD rfl rfl ?_ rfl ?_;omega)|(refine zP rfl ?_ rfl ?_;omega)|refine zG rfl rfl rfl rfl ?_|(refine jdq rfl rfl ?_ ?_ ?_;kernel_rfl;kernel_rfl)|refine zB rfl rfl rfl (by repeat constructor) rfl ?_|refine zH .here rfl rfl rfl rfl ?_|refine zH (.there .here) rfl rfl rfl rfl ?_|refine zH (.there (.there .here)) rfl rfl rfl rfl ?_|refine zH (.there (.there (.there .here))) rfl rfl rfl rfl ?_|refine zH (.there (.there (.there (.there .here)))) rfl rfl rfl rfl ?_)
      have e : strC r ++ [.string (strOf ln)] = strC (r ++ [ln]) := by simp [strC]
      have el : (r ++ [ln]).length = r.length + 1 := by simp
      refine J_again2 (j + 1) u' ⟨by omega, by omega⟩ (by omega) ?_
      rw [hr, ← e, el]
      exact ⟨⟨rfl, rfl, rfl, trivial⟩, fun w s => s.drop⟩
    · rw [if_neg (by omega)] at hnext
      subst hnext
      repeat (first|refine zJ rfl rfl ?_|refine jr rfl ?_|refine jn ?_|refine zM rfl rfl ?_|(refine zC rfl rfl ?_ rfl ?_;omega)|(refine zD rfl rfl ?_ rfl ?_;omega)|(refine zP rfl ?_ rfl ?_;omega)|refine zG rfl rfl rfl rfl ?_|(refine jdq rfl rfl ?_ ?_ ?_;kernel_rfl;kernel_rfl)|refine zB rfl rfl rfl (by repeat constructor) rfl ?_|refine zH .here rfl rfl rfl rfl ?_|refine zH (.there .here) rfl rfl rfl rfl ?_|refine zH (.there (.there .here)) rfl rfl rfl rfl ?_|refine zH (.there (.there (.there .here))) rfl rfl rfl rfl ?_|refine zH (.there (.there (.there (.there .here)))) rfl rfl rfl rfl ?_)
      exact J_again2 (j + 1) u ⟨by omega, by omega⟩ (by omega) (by rw [hr]; exact ⟨⟨rfl, rfl, rfl, trivial⟩, fun w s => s⟩)
  · obtain rfl : j = 13 := by omega
    repeat (first|refine zJ rfl rfl ?_|refine jr rfl ?_|refine jn ?_|refine zM rfl rfl ?_|(refine zC rfl rfl ?_ rfl ?_;omega)|(refine zD rfl rfl ?_ rfl ?_;omega)|(refine zP rfl ?_ rfl ?_;omega)|refine zG rfl rfl rfl rfl ?_|(refine jdq rfl rfl ?_ ?_ ?_;kernel_rfl;kernel_rfl)|refine zB rfl rfl rfl (by repeat constructor) rfl ?_|refine zH .here rfl rfl rfl rfl ?_|refine zH (.there .here) rfl rfl rfl rfl ?_|refine zH (.there (.there .here)) rfl rfl rfl rfl ?_|refine zH (.there (.there (.there .here))) rfl rfl rfl rfl ?_|refine zH (.there (.there (.there (.there .here)))) rfl rfl rfl rfl ?_)
    exact J_ret1 rfl rfl [own u 9 1 (lineS xs 13).length (strC (lineS xs 13))] rfl (PH.ler _) rfl
end Go.Proofs.YtmicjjhkoicdnaaDoor
namespace Go.Proofs.YtmicjjhkoicdnaaDoor
open Go.RowKit
set_option maxRecDepth 100000
def cTag : Ty Tryd.prog 84 (List UInt8) := tyArr Tryd.underlying84 Tryd.underlying5 (by kernel_rfl) (by kernel_rfl)
def cTags : Ty Tryd.prog 31 (List (List UInt8)) := tySliceB cTag Tryd.underlying31 (by kernel_rfl) (by decide)
def cByt : Ty Tryd.prog 27 (List UInt8) := tyBytes Tryd.underlying27 Tryd.underlying5 (by kernel_rfl)
def cI64 : Ty Tryd.prog 3 Int := tyInt Tryd.underlying3
abbrev MsgX := Int × Int × List UInt8 × List (List UInt8) × Unit
def cMsg : Ty Tryd.prog 33 MsgX :=
  tyStruct Tryd.underlying33 (fsCons cI64 (fsCons cI64 (fsCons cByt (fsCons cTags (fsNil _) rfl (by kernel_rfl)) rfl (by kernel_rfl)) rfl (by kernel_rfl)) rfl (by kernel_rfl)) (by kernel_rfl)
abbrev ParX := Int × MsgX × Unit
def cPar : Ty Tryd.prog 35 ParX := tyStruct Tryd.underlying35 (fsCons cI64 (fsCons cMsg (fsNil _) rfl (by kernel_rfl)) rfl (by kernel_rfl)) (by kernel_rfl)
def cPars : Ty Tryd.prog 36 (List ParX) := tySliceB cPar Tryd.underlying36 (by kernel_rfl) (by decide)
abbrev SendX := Int × List ParX × Unit
def cSend : Ty Tryd.prog 47 SendX := tyStruct Tryd.underlying47 (fsCons cI64 (fsCons cPars (fsNil _) rfl (by kernel_rfl)) rfl (by kernel_rfl)) (by kernel_rfl)
theorem cTags_of {F : PH} {v : Value} {ts : List (List UInt8)} (h : RowV cTag F v ts) : Tags F v ts := by
  obtain ⟨css, h1, h2⟩ := h
  have h3 : css = ts.map u8s ∧ ∀ t ∈ ts, t.length = 32 := by
    clear h1
    induction h2 with
    | nil => exact ⟨rfl, fun _ h => by cases h⟩
    | cons h _ ih =>
      obtain ⟨rfl, h32⟩ := h
      refine ⟨by rw [ih.1]; rfl, fun t ht => ?_⟩
      rcases List.mem_cons.1 ht with rfl | ht
      · exact h32
      · exact ih.2 t ht
  obtain ⟨rfl, h32⟩ := h3
  exact ⟨h1, h32⟩
/-- A parcel's cells. -/
def ParC (F : PH) (x : ParX) (c : List Value) : Prop := ∃ vb vt, c = [.int .i64 x.1, .int .i64 x.2.1.1, .int .i64 x.2.1.2.1, vb, vt] ∧ Byt F vb x.2.1.2.2.1 ∧ Tags F vt x.2.1.2.2.2.1 ∧ x.2.1.2.2.2.1.length ≤ maxLen
theorem parC_of {F : PH} {x : ParX} {cs : List Value} (h : cPar.rep F x cs) : ParC F x cs := by
  obtain ⟨_, _, rfl, ⟨rfl, _⟩, _, _, rfl, ⟨_, _, rfl, ⟨rfl, _⟩, _, _, rfl, ⟨rfl, _⟩, _, _, rfl, hb, _, _, rfl, ⟨vt, rfl, ht, hm⟩, rfl⟩, rfl⟩ := h
  obtain ⟨vb, rfl, hb'⟩ := id hb
  exact ⟨vb, vt, rfl, hb', cTags_of ht, hm⟩
theorem ParC.len {F : PH} {x : ParX} {c : List Value} (h : ParC F x c) : c.length = 5 := by
  obtain ⟨vb, vt, rfl, _⟩ := h
  rfl
theorem ParC.ones {F : PH} {x : ParX} {c : List Value} (h : ParC F x c) : Ones c := by
  obtain ⟨vb, vt, rfl, hb, ht, _⟩ := h
  obtain ⟨a, k, rfl, _⟩ := hb.form
  obtain ⟨a2, k2, rfl, _⟩ := ht.form
  (repeat (first | exact ones_nil | refine ones_cons rfl ?_))
theorem ParC.mono {F G : PH} {x : ParX} {c : List Value} (h : ParC F x c) (hl : F.le G) : ParC G x c := by
  obtain ⟨vb, vt, e, hb, ht, hm⟩ := h
  exact ⟨vb, vt, e, SliceV.mono hb hl, ht.mono hl, hm⟩
def sentOf (f : Int) (p : ParX) : SentX := ⟨f, p.1, p.2.1.1, p.2.1.2.1, p.2.1.2.2.1, p.2.1.2.2.2.1⟩
/-! sums of counts -/
theorem tot_cons (q : SentX → Bool) (x : SentX) (xs : List SentX) : tot q (x :: xs) = if q x = true then ((tot q xs).1 + 1, (tot q xs).2 + x.size) else tot q xs := by
  unfold tot
  by_cases h : q x = true
  · simp [h]; omega
  · simp [h]
theorem tot_add {q q1 q2 : SentX → Bool} (h : ∀ x, q x = (q1 x || q2 x)) (hd : ∀ x, (q1 x && q2 x) = false) (xs : List SentX) : (tot q xs).1 = (tot q1 xs).1 + (tot q2 xs).1 ∧ (tot q xs).2 = (tot q1 xs).2 + (tot q2 xs).2 := by
  induction xs with
  | nil => exact ⟨rfl, rfl⟩
  | cons x xs ih =>
    have h1 := h x
    have h2 := hd x
    rw [tot_cons, tot_cons, tot_cons]
    cases a : q1 x <;> cases b : q2 x <;> rw [a, b] at h1 h2 <;> rw [h1] <;> simp at h2 ⊢ <;> omega
def ltQ (n : Nat) (x : SentX) : Bool := decide (kindK x < (n : Int))
theorem ltQ_zero (xs : List SentX) : tot (ltQ 0) xs = (0, 0) := by
  have : ltQ 0 = fun _ => false := by funext x; have := kindK_in x; unfold ltQ; rw [decide_eq_false]; omega
  rw [this]; unfold tot; rw [List.filter_eq_nil_iff.2 (by simp)]; rfl
theorem ltQ_succ (n : Nat) (xs : List SentX) : (tot (ltQ (n + 1)) xs).1 = (tot (ltQ n) xs).1 + (kTot xs n).1 ∧ (tot (ltQ (n + 1)) xs).2 = (tot (ltQ n) xs).2 + (kTot xs n).2 := by
  refine tot_add (fun x => ?_) (fun x => ?_) xs
  · unfold ltQ at_
    by_cases a : kindK x < (n : Int) <;> by_cases b : kindK x = (n : Int) <;> simp [a, b] <;> omega
  · unfold ltQ at_
    by_cases a : kindK x < (n : Int)
    · have : ¬ kindK x = (n : Int) := by omega
      simp [this]
    · simp [a]
theorem ltQ_all : ltQ 13 = allQ := by
  funext x
  have := kindK_in x
  unfold ltQ allQ at_
  rw [decide_eq_true (by omega)]; rfl
theorem ofQ_all : ofQ (-1) (-1) 0 = allQ := by
  funext x
  rw [ofQ_iff.2 ⟨.inl (by omega), .inl (by omega)⟩]; rfl
theorem ofQ_pair {f t : Int} (hf : 0 ≤ f) : ofQ (-1) f t = at_ pairK (f, t) := by
  funext x
  have h := ofQ_iff (kind := -1) (from_ := f) (to := t) (x := x)
  by_cases e : x.from_ = f ∧ x.to = t
  · rw [h.2 ⟨.inl (by omega), .inr e⟩]
    simp [at_, pairK, e.1, e.2]
  · have : ¬ ofQ (-1) f t x = true := fun hq => by have := (h.1 hq).2; omega
    rw [Bool.not_eq_true] at this
    rw [this]
    simp only [at_, pairK, Prod.mk.injEq]
    rw [decide_eq_false e]
def manyV : Value → Nat
  | .agg ⟨.int _ m :: _⟩ => m.toNat
  | _ => 0
theorem manyV_cv (p : Nat × Nat) : manyV (cv p) = p.1 := by simp [manyV, cv]
def sumM {α : Type} (M : List (α × Value)) : Nat := (M.map fun p => manyV p.2).sum
theorem sumM_set {α : Type} [DecidableEq α] (M : List (α × Value)) (a : α) (v : Value) : sumM (setK M a v) + ((getK M a).map manyV).getD 0 = sumM M + manyV v := by
  induction M with
  | nil => simp [setK, sumM, getK_nil]
  | cons p r ih =>
    obtain ⟨k, u⟩ := p
    unfold setK
    rw [getK_cons]
    by_cases h : a = k
    · rw [if_pos h, if_pos h]
      simp [sumM]; omega
    · rw [if_neg h, if_neg h]
      simp only [sumM, List.map_cons, List.sum_cons] at ih ⊢
      omega
theorem sumM_cnt {α : Type} [DecidableEq α] (key : SentX → α) (xs : List SentX) : ∀ n, n ≤ xs.length → sumM (cntM key xs n) = n
  | 0, _ => rfl
  | n + 1, h => by
    have hx : xs[n]? = some xs[n] := List.getElem?_eq_getElem h
    have ih := sumM_cnt key xs n (by omega)
    have hs := sumM_set (cntM key xs n) (key xs[n]) (cv (tot (at_ key (key xs[n])) (xs.take (n + 1))))
    have e1 : (tot (at_ key (key xs[n])) (xs.take (n + 1))).1 = (tot (at_ key (key xs[n])) (xs.take n)).1 + 1 := by
      rw [take_snoc' hx, tot_snoc, if_pos (show at_ key (key xs[n]) xs[n] = true by simp [at_])]
    rw [← cntM_succ hx, cntM_get key xs _ n (by omega), manyV_cv, e1, ih] at hs
    by_cases h0 : (tot (at_ key (key xs[n])) (xs.take n)).1 = 0
    · rw [if_pos h0] at hs
      simp only [Option.map_none, Option.getD_none] at hs
      omega
    · rw [if_neg h0] at hs
      simp only [Option.map_some, Option.getD_some, manyV_cv] at hs
      omega
theorem cntM_form {α : Type} [DecidableEq α] (key : SentX → α) (xs : List SentX) {p : α × Value} (hp : p ∈ cntM key xs xs.length) : ∃ m z, p.2 = cv (m, z) ∧ m ≤ xs.length := by
  have h1 := getK_mem (cntM_nodup key xs xs.length) hp
  rw [cntM_get key xs p.1 xs.length (Nat.le_refl _), List.take_length] at h1
  split at h1
  · cases h1
  · refine ⟨_, _, (Option.some.inj h1).symm, ?_⟩
    exact List.length_filter_le _ _
end Go.Proofs.YtmicjjhkoicdnaaDoor
namespace Go.Proofs.YtmicjjhkoicdnaaDoor
open Go.RowKit
set_option maxRecDepth 100000
theorem elSent' : Elem Tryd.prog 45 49 6 80 (.agg zSent.toArray) := elSent
/-- What was sent so far, and its cells. -/
def Both (F : PH) (xs : List SentX) (rows : List (List Value)) : Prop := rows.length = xs.length ∧ ∀ (i : Nat) (x : SentX) (r : List Value), xs[i]? = some x → rows[i]? = some r → SentOk F x r
theorem Both.nil (F : PH) : Both F [] [] := ⟨rfl, fun i x r h => by cases h⟩
theorem Both.snoc {F : PH} {xs : List SentX} {rows : List (List Value)} {x : SentX} {r : List Value} (h : Both F xs rows) (hr : SentOk F x r) : Both F (xs ++ [x]) (rows ++ [r]) := by
  refine ⟨by simp [h.1], fun i y q hy hq => ?_⟩
  rcases Nat.lt_or_ge i xs.length with hlt | hge
  · rw [List.getElem?_append_left hlt] at hy
    rw [List.getElem?_append_left (by rw [h.1]; exact hlt)] at hq
    exact h.2 i y q hy hq
  · rw [List.getElem?_append_right hge] at hy
    rw [List.getElem?_append_right (by rw [h.1]; exact hge), h.1] at hq
    have h0 : i - xs.length = 0 := by
      rcases Nat.eq_zero_or_pos (i - xs.length) with e | e
      · exact e
      · rw [List.getElem?_eq_none (by simp; omega)] at hy; cases hy
    rw [h0] at hy hq
    cases hy
    cases hq
    exact hr
def putR (f : Int) (css : List (List Value)) : List (List Value) := css.map fun c => .int .i64 f :: c
set_option maxHeartbeats 32000000 in
theorem CensusCounts_walk (a : Option Addr) (c : Nat) (l : List SendX) (from_ to : Int) (F : PH) (hT : TabF F) (h : RowV cSend F (.slice a l.length c) l) (hlm : l.length ≤ maxLen) : Pure Tryd.prog 5 [.slice a l.length c, .int .i64 from_, .int .i64 to] F (.bool true) := by
  unfold maxLen at hlm
  refine Spec.of3 Tryd.func5 rfl rfl fun X w0 => ?_
  repeat (first|refine zJ rfl rfl ?_|refine jr rfl ?_|refine jn ?_|refine zM rfl rfl ?_|(refine zC rfl rfl ?_ rfl ?_;omega)|(refine zD rfl rfl ?_ rfl ?_;omega)|(refine zP rfl ?_ rfl ?_;omega)|refine zG rfl rfl rfl rfl ?_|(refine jdq rfl rfl ?_ ?_ ?_;kernel_rfl;kernel_rfl)|refine zB rfl rfl rfl (by repeat constructor) rfl ?_|refine zH .here rfl rfl rfl rfl ?_|refine zH (.there .here) rfl rfl rfl rfl ?_|refine zH (.there (.there .here)) rfl rfl rfl rfl ?_|refine zH (.there (.there (.there .here))) rfl rfl rfl rfl ?_|refine zH (.there (.there (.there (.there .here)))) rfl rfl rfl rfl ?_)
  refine oP (fixed43 F hT) Tryd.call6 rfl rfl ?_
  by_cases h20 : 20 < l.length
  · repeat (first|refine zJ rfl rfl ?_|refine jr rfl ?_|refine jn ?_|refine zM rfl rfl ?_|(refine zC rfl rfl ?_ rfl ?_;omega)|(refine zD rfl rfl ?_ rfl ?_;omega)|(refine zP rfl ?_ rfl ?_;omega)|refine zG rfl rfl rfl rfl ?_|(refine jdq rfl rfl ?_ ?_ ?_;kernel_rfl;kernel_rfl)|refine zB rfl rfl rfl (by repeat constructor) rfl ?_|refine zH .here rfl rfl rfl rfl ?_|refine zH (.there .here) rfl rfl rfl rfl ?_|refine zH (.there (.there .here)) rfl rfl rfl rfl ?_|refine zH (.there (.there (.there .here))) rfl rfl rfl rfl ?_|refine zH (.there (.there (.there (.there .here)))) rfl rfl rfl rfl ?_)
    exact J_ret1 rfl rfl [] rfl (PH.ler _) ⟨rfl, rfl⟩
  repeat (first|refine zJ rfl rfl ?_|refine jr rfl ?_|refine jn ?_|refine zM rfl rfl ?_|(refine zC rfl rfl ?_ rfl ?_;omega)|(refine zD rfl rfl ?_ rfl ?_;omega)|(refine zP rfl ?_ rfl ?_;omega)|refine zG rfl rfl rfl rfl ?_|(refine jdq rfl rfl ?_ ?_ ?_;kernel_rfl;kernel_rfl)|refine zB rfl rfl rfl (by repeat constructor) rfl ?_|refine zH .here rfl rfl rfl rfl ?_|refine zH (.there .here) rfl rfl rfl rfl ?_|refine zH (.there (.there .here)) rfl rfl rfl rfl ?_|refine zH (.there (.there (.there .here))) rfl rfl rfl rfl ?_|refine zH (.there (.there (.there (.there .here)))) rfl rfl rfl rfl ?_)
  refine oC (Hc := []) (Hr := X) (new_spec F) Tryd.call10 rfl rfl (fun w s => s) ?_
  rintro _ _ _ _ ⟨rfl, b, rfl, rfl⟩
  repeat (first|refine zJ rfl rfl ?_|refine jr rfl ?_|refine jn ?_|refine zM rfl rfl ?_|(refine zC rfl rfl ?_ rfl ?_;omega)|(refine zD rfl rfl ?_ rfl ?_;omega)|(refine zP rfl ?_ rfl ?_;omega)|refine zG rfl rfl rfl rfl ?_|(refine jdq rfl rfl ?_ ?_ ?_;kernel_rfl;kernel_rfl)|refine zB rfl rfl rfl (by repeat constructor) rfl ?_|refine zH .here rfl rfl rfl rfl ?_|refine zH (.there .here) rfl rfl rfl rfl ?_|refine zH (.there (.there .here)) rfl rfl rfl rfl ?_|refine zH (.there (.there (.there .here))) rfl rfl rfl rfl ?_|refine zH (.there (.there (.there (.there .here)))) rfl rfl rfl rfl ?_)
  refine J_own_nil 49 6 ?_
  refine J_loop5 (fun (i : Nat) (xs : List SentX) (rows : List (List Value)) (u v : Value) => i ≤ l.length ∧ Both F xs rows ∧ xs.length ≤ 20 * i) (fun i _ _ _ _ => l.length - i) (fun i _ _ u _ => [(1, .int .i64 from_), (2, .int .i64 to), (7, .pointer (some ⟨b, 0, none⟩)), (8, u), (35, .slice a l.length c), (36, .int .i64 l.length), (37, .int .i64 i)]) (fun _ _ _ _ _ => F)
    (fun i xs rows u v => own u 49 6 rows.length rows.flatten :: (crowd b v rows.length rows.flatten ++ X)) 0 [] [] (.slice none 0 0) (.slice none 0 0) ⟨Nat.zero_le _, Both.nil F, Nat.zero_le _⟩ ⟨⟨rfl, rfl, rfl, rfl, rfl, rfl, rfl, trivial⟩, fun w s => s⟩ ?_
  rintro i xs rows u v ⟨hi, hB, hxl⟩
  by_cases hlt : i < l.length
  · have hx : l[i]? = some l[i] := List.getElem?_eq_getElem hlt
    obtain ⟨bb, off, cs, rfl, hcc, hrep, _⟩ := h.at hx
    generalize l[i] = s at *
    obtain ⟨f, ps, _⟩ := s
    obtain ⟨_, _, rfl, ⟨rfl, _⟩, _, _, rfl, ⟨vl, rfl, hps, hpm⟩, rfl⟩ := hrep
    obtain ⟨la, lc, rfl, hplc⟩ := hps.form
    unfold maxLen at hpm
    dsimp only at *
    repeat (first|refine zJ rfl rfl ?_|refine jr rfl ?_|refine jn ?_|refine zM rfl rfl ?_|(refine zC rfl rfl ?_ rfl ?_;omega)|(refine zD rfl rfl ?_ rfl ?_;omega)|(refine zP rfl ?_ rfl ?_;omega)|refine zG rfl rfl rfl rfl ?_|(refine jdq rfl rfl ?_ ?_ ?_;kernel_rfl;kernel_rfl)|refine zB rfl rfl rfl (by repeat constructor) rfl ?_|refine zH .here rfl rfl rfl rfl ?_|refine zH (.there .here) rfl rfl rfl rfl ?_|refine zH (.there (.there .here)) rfl rfl rfl rfl ?_|refine zH (.there (.there (.there .here))) rfl rfl rfl rfl ?_|refine zH (.there (.there (.there (.there .here)))) rfl rfl rfl rfl ?_)
    refine oS (ev_indexAddr rfl rfl rfl hlt) rfl ?_
    refine oS (ev_load_agg (cs := [.int .i64 f, .slice la ps.length lc]) rfl rfl (Rdb.ofF hcc) rfl) rfl ?_
    refine oE (ev_alloc rfl) rfl ?_
    rintro _ _ _ _ ⟨rfl, b10, rfl, rfl⟩
    refine oN (ev_store rfl rfl .agg rfl rfl (lay_all (zs := [.int .i64 0, .slice none 0 0]) rfl) (by (repeat (first | exact ones_nil | refine ones_cons rfl ?_))) .here) rfl ?_
    rintro _ _ _ _ ⟨rfl, _, rfl⟩
    by_cases hp20 : 20 < ps.length
    · repeat (first|refine zJ rfl rfl ?_|refine jr rfl ?_|refine jn ?_|refine zM rfl rfl ?_|(refine zC rfl rfl ?_ rfl ?_;omega)|(refine zD rfl rfl ?_ rfl ?_;omega)|(refine zP rfl ?_ rfl ?_;omega)|refine zG rfl rfl rfl rfl ?_|(refine jdq rfl rfl ?_ ?_ ?_;kernel_rfl;kernel_rfl)|refine zB rfl rfl rfl (by repeat constructor) rfl ?_|refine zH .here rfl rfl rfl rfl ?_|refine zH (.there .here) rfl rfl rfl rfl ?_|refine zH (.there (.there .here)) rfl rfl rfl rfl ?_|refine zH (.there (.there (.there .here))) rfl rfl rfl rfl ?_|refine zH (.there (.there (.there (.there .here)))) rfl rfl rfl rfl ?_)
      exact J_retv rfl (.tmp rfl .nil) [] (fun w s => s.drop.drop.drop.drop) (PH.ler _) ⟨rfl, rfl⟩
    obtain ⟨css, hsl, h2⟩ := hps
    have hcl : css.length = ps.length := h2.len1.symm
    have h5 : ∀ r ∈ css, r.length = 5 := fun r hr => by
      obtain ⟨x, _, hx⟩ := h2.right r hr
      exact (parC_of hx).len
    have h5o : ∀ r ∈ css, r.length = 5 ∧ Ones r := fun r hr => by
      obtain ⟨x, _, hx⟩ := h2.right r hr
      exact ⟨(parC_of hx).len, (parC_of hx).ones⟩
    repeat (first|refine zJ rfl rfl ?_|refine jr rfl ?_|refine jn ?_|refine zM rfl rfl ?_|(refine zC rfl rfl ?_ rfl ?_;omega)|(refine zD rfl rfl ?_ rfl ?_;omega)|(refine zP rfl ?_ rfl ?_;omega)|refine zG rfl rfl rfl rfl ?_|(refine jdq rfl rfl ?_ ?_ ?_;kernel_rfl;kernel_rfl)|refine zB rfl rfl rfl (by repeat constructor) rfl ?_|refine zH .here rfl rfl rfl rfl ?_|refine zH (.there .here) rfl rfl rfl rfl ?_|refine zH (.there (.there .here)) rfl rfl rfl rfl ?_|refine zH (.there (.there (.there .here))) rfl rfl rfl rfl ?_|refine zH (.there (.there (.there (.there .here)))) rfl rfl rfl rfl ?_)
    refine J_loop4 (fun (j : Nat) (xs' : List SentX) (rows' : List (List Value)) (u' : Value) => j ≤ ps.length ∧ Both F xs' rows' ∧ xs'.length ≤ 20 * i + j ∧ rows' = rows ++ putR f (css.take j)) (fun j _ _ _ => ps.length - j) (fun j _ _ u' => [(1, .int .i64 from_), (2, .int .i64 to), (7, .pointer (some ⟨b, 0, none⟩)), (8, u'), (10, .pointer (some ⟨b10, 0, none⟩)), (35, .slice (some ⟨bb, off, none⟩) l.length c), (36, .int .i64 l.length), (37, .int .i64 i), (46, .slice la ps.length lc), (47, .int .i64 ps.length), (48, .int .i64 j)]) (fun _ _ _ _ => F)
      (fun j xs' rows' u' => blk b10 47 [.int .i64 f, .slice la ps.length lc] :: own u' 49 6 rows'.length rows'.flatten :: (crowd b v rows.length rows.flatten ++ X)) 0 xs rows u ⟨Nat.zero_le _, hB, by omega, by simp [putR]⟩ ⟨⟨rfl, rfl, rfl, rfl, rfl, rfl, rfl, rfl, rfl, rfl, rfl, trivial⟩, fun w s => s⟩ ?_
    rintro j xs' rows' u' ⟨hj, hB', hxl', hrows⟩
    by_cases hjl : j < ps.length
    · have hpx : ps[j]? = some ps[j] := List.getElem?_eq_getElem hjl
      obtain ⟨row, hrow, hrep⟩ := h2.at hpx
      have hpc := parC_of hrep
      generalize ps[j] = p at *
      obtain ⟨bp, offp, rfl, hcp⟩ := hsl.row h5 hrow hjl
      have hpo := hpc.ones
      obtain ⟨vb, vt, rfl, hb, ht, htm⟩ := hpc
      obtain ⟨ab, cb, rfl, _⟩ := hb.form
      obtain ⟨at_, ct, rfl, _⟩ := ht.form
      unfold maxLen at htm
      repeat (first|refine zJ rfl rfl ?_|refine jr rfl ?_|refine jn ?_|refine zM rfl rfl ?_|(refine zC rfl rfl ?_ rfl ?_;omega)|(refine zD rfl rfl ?_ rfl ?_;omega)|(refine zP rfl ?_ rfl ?_;omega)|refine zG rfl rfl rfl rfl ?_|(refine jdq rfl rfl ?_ ?_ ?_;kernel_rfl;kernel_rfl)|refine zB rfl rfl rfl (by repeat constructor) rfl ?_|refine zH .here rfl rfl rfl rfl ?_|refine zH (.there .here) rfl rfl rfl rfl ?_|refine zH (.there (.there .here)) rfl rfl rfl rfl ?_|refine zH (.there (.there (.there .here))) rfl rfl rfl rfl ?_|refine zH (.there (.there (.there (.there .here)))) rfl rfl rfl rfl ?_)
      refine oS (ev_indexAddr rfl rfl rfl hjl) rfl ?_
      refine oS (ev_load_agg rfl rfl (Rdb.ofF hcp) rfl) rfl ?_
      refine oE (ev_alloc rfl) rfl ?_
      rintro _ _ _ _ ⟨rfl, b12, rfl, rfl⟩
      refine oN (ev_store rfl rfl .agg rfl rfl (lay_all (zs := zPar) rfl) hpo .here) rfl ?_
      rintro _ _ _ _ ⟨rfl, _, rfl⟩
      by_cases hb300 : 300 < p.2.1.2.2.1.length
      · repeat (first|refine zJ rfl rfl ?_|refine jr rfl ?_|refine jn ?_|refine zM rfl rfl ?_|(refine zC rfl rfl ?_ rfl ?_;omega)|(refine zD rfl rfl ?_ rfl ?_;omega)|(refine zP rfl ?_ rfl ?_;omega)|refine zG rfl rfl rfl rfl ?_|(refine jdq rfl rfl ?_ ?_ ?_;kernel_rfl;kernel_rfl)|refine zB rfl rfl rfl (by repeat constructor) rfl ?_|refine zH .here rfl rfl rfl rfl ?_|refine zH (.there .here) rfl rfl rfl rfl ?_|refine zH (.there (.there .here)) rfl rfl rfl rfl ?_|refine zH (.there (.there (.there .here))) rfl rfl rfl rfl ?_|refine zH (.there (.there (.there (.there .here)))) rfl rfl rfl rfl ?_)
        exact J_retv rfl (.tmp rfl .nil) [] (fun w s => s.drop.drop.drop.drop.drop) (PH.ler _) ⟨rfl, rfl⟩
      by_cases ht10 : 10 < p.2.1.2.2.2.1.length
      · repeat (first|refine zJ rfl rfl ?_|refine jr rfl ?_|refine jn ?_|refine zM rfl rfl ?_|(refine zC rfl rfl ?_ rfl ?_;omega)|(refine zD rfl rfl ?_ rfl ?_;omega)|(refine zP rfl ?_ rfl ?_;omega)|refine zG rfl rfl rfl rfl ?_|(refine jdq rfl rfl ?_ ?_ ?_;kernel_rfl;kernel_rfl)|refine zB rfl rfl rfl (by repeat constructor) rfl ?_|refine zH .here rfl rfl rfl rfl ?_|refine zH (.there .here) rfl rfl rfl rfl ?_|refine zH (.there (.there .here)) rfl rfl rfl rfl ?_|refine zH (.there (.there (.there .here))) rfl rfl rfl rfl ?_|refine zH (.there (.there (.there (.there .here)))) rfl rfl rfl rfl ?_)
        exact J_retv rfl (.tmp rfl .nil) [] (fun w s => s.drop.drop.drop.drop.drop) (PH.ler _) ⟨rfl, rfl⟩
      repeat (first|refine zJ rfl rfl ?_|refine jr rfl ?_|refine jn ?_|refine zM rfl rfl ?_|(refine zC rfl rfl ?_ rfl ?_;omega)|(refine zD rfl rfl ?_ rfl ?_;omega)|(refine zP rfl ?_ rfl ?_;omega)|refine zG rfl rfl rfl rfl ?_|(refine jdq rfl rfl ?_ ?_ ?_;kernel_rfl;kernel_rfl)|refine zB rfl rfl rfl (by repeat constructor) rfl ?_|refine zH .here rfl rfl rfl rfl ?_|refine zH (.there .here) rfl rfl rfl rfl ?_|refine zH (.there (.there .here)) rfl rfl rfl rfl ?_|refine zH (.there (.there (.there .here))) rfl rfl rfl rfl ?_|refine zH (.there (.there (.there (.there .here)))) rfl rfl rfl rfl ?_)
      refine oS (ev_load_agg (cs := [.int .i64 p.1, .int .i64 p.2.1.1, .int .i64 p.2.1.2.1, .slice ab p.2.1.2.2.1.length cb, .slice at_ p.2.1.2.2.2.1.length ct]) rfl rfl (Rdb.ofB (n := 0) .here rfl) rfl) rfl ?_
      repeat (first|refine zJ rfl rfl ?_|refine jr rfl ?_|refine jn ?_|refine zM rfl rfl ?_|(refine zC rfl rfl ?_ rfl ?_;omega)|(refine zD rfl rfl ?_ rfl ?_;omega)|(refine zP rfl ?_ rfl ?_;omega)|refine zG rfl rfl rfl rfl ?_|(refine jdq rfl rfl ?_ ?_ ?_;kernel_rfl;kernel_rfl)|refine zB rfl rfl rfl (by repeat constructor) rfl ?_|refine zH .here rfl rfl rfl rfl ?_|refine zH (.there .here) rfl rfl rfl rfl ?_|refine zH (.there (.there .here)) rfl rfl rfl rfl ?_|refine zH (.there (.there (.there .here))) rfl rfl rfl rfl ?_|refine zH (.there (.there (.there (.there .here)))) rfl rfl rfl rfl ?_)
      have hrl : rows'.length ≤ 400 := by rw [hB'.1]; omega
      refine oE (ev_one (vs := [.int .i64 f, .int .i64 p.1, .int .i64 p.2.1.1, .int .i64 p.2.1.2.1, .slice ab p.2.1.2.2.1.length cb, .slice at_ p.2.1.2.2.2.1.length ct]) rfl .agg rfl elSent) rfl ?_
      rintro _ _ _ _ ⟨rfl, bt, rfl, rfl⟩
      refine oE (ev_append (m := 1) (c := 1) (b := bt) (off := 0) (n := rows'.length) (xs := rows'.flatten) (news := [.int .i64 f, .int .i64 p.1, .int .i64 p.2.1.1, .int .i64 p.2.1.2.1, .slice ab p.2.1.2.2.1.length cb, .slice at_ p.2.1.2.2.2.1.length ct]) (K := fun v' => blk bt 49 [.int .i64 f, .int .i64 p.1, .int .i64 p.2.1.1, .int .i64 p.2.1.2.1, .slice ab p.2.1.2.2.1.length cb, .slice at_ p.2.1.2.2.2.1.length ct] :: blk b12 35 [.int .i64 p.1, .int .i64 p.2.1.1, .int .i64 p.2.1.2.1, .slice ab p.2.1.2.2.1.length cb, .slice at_ p.2.1.2.2.2.1.length ct] :: blk b10 47 [.int .i64 f, .slice (some ⟨bp, offp, none⟩) ps.length lc] :: own v' 49 6 (rows'.length + 1) (rows'.flatten ++ [.int .i64 f, .int .i64 p.1, .int .i64 p.2.1.1, .int .i64 p.2.1.2.1, .slice ab p.2.1.2.2.1.length cb, .slice at_ p.2.1.2.2.2.1.length ct]) :: (crowd b v rows.length rows.flatten ++ X)) rfl rfl elSent (Rdb.ofB (n := 0) .here rfl) rfl (ones_cons rfl hpo) (by omega) (by unfold maxLen; omega) (fun v' => .there (.there (.there .here)))) rfl ?_
      rintro u2 _ _ _ ⟨rfl, _, rfl⟩
      repeat (first|refine zJ rfl rfl ?_|refine jr rfl ?_|refine jn ?_|refine zM rfl rfl ?_|(refine zC rfl rfl ?_ rfl ?_;omega)|(refine zD rfl rfl ?_ rfl ?_;omega)|(refine zP rfl ?_ rfl ?_;omega)|refine zG rfl rfl rfl rfl ?_|(refine jdq rfl rfl ?_ ?_ ?_;kernel_rfl;kernel_rfl)|refine zB rfl rfl rfl (by repeat constructor) rfl ?_|refine zH .here rfl rfl rfl rfl ?_|refine zH (.there .here) rfl rfl rfl rfl ?_|refine zH (.there (.there .here)) rfl rfl rfl rfl ?_|refine zH (.there (.there (.there .here))) rfl rfl rfl rfl ?_|refine zH (.there (.there (.there (.there .here)))) rfl rfl rfl rfl ?_)
      refine J_again4 (j + 1) (xs' ++ [sentOf f p]) (rows' ++ [[.int .i64 f, .int .i64 p.1, .int .i64 p.2.1.1, .int .i64 p.2.1.2.1, .slice ab p.2.1.2.2.1.length cb, .slice at_ p.2.1.2.2.2.1.length ct]]) u2 ⟨by omega, hB'.snoc ⟨_, _, rfl, hb, ht, (by show p.2.1.2.2.1.length ≤ 1000; omega), (by show p.2.1.2.2.2.1.length ≤ 1000; omega)⟩, by rw [List.length_append, List.length_singleton]; omega, ?_⟩ (by omega) ⟨⟨rfl, rfl, rfl, rfl, rfl, rfl, rfl, rfl, rfl, rfl, rfl, trivial⟩, fun w s => ?_⟩
      · rw [hrows, take_snoc' hrow, List.append_assoc]
        simp [putR]
      · rw [List.length_append, List.length_singleton, List.flatten_append, List.flatten_singleton]
        exact s.drop.drop
    · obtain rfl : j = ps.length := by omega
      rw [← hcl, List.take_length] at hrows
      have hrl : rows.length ≤ 400 := by rw [hB.1]; omega
      repeat (first|refine zJ rfl rfl ?_|refine jr rfl ?_|refine jn ?_|refine zM rfl rfl ?_|(refine zC rfl rfl ?_ rfl ?_;omega)|(refine zD rfl rfl ?_ rfl ?_;omega)|(refine zP rfl ?_ rfl ?_;omega)|refine zG rfl rfl rfl rfl ?_|(refine jdq rfl rfl ?_ ?_ ?_;kernel_rfl;kernel_rfl)|refine zB rfl rfl rfl (by repeat constructor) rfl ?_|refine zH .here rfl rfl rfl rfl ?_|refine zH (.there .here) rfl rfl rfl rfl ?_|refine zH (.there (.there .here)) rfl rfl rfl rfl ?_|refine zH (.there (.there (.there .here))) rfl rfl rfl rfl ?_|refine zH (.there (.there (.there (.there .here)))) rfl rfl rfl rfl ?_)
      refine oC (Hc := crowd b v rows.length rows.flatten) (Hr := blk b10 47 [.int .i64 f, .slice la ps.length lc] :: own u' 49 6 rows'.length rows'.flatten :: X) (cput_spec b ps.length rows.length lc f v la rows.flatten css F h5o hsl hcl (by omega) (by omega)) Tryd.call11 rfl rfl (fun _ s => Sat.front (A := [_, _]) s) ?_
      rintro _ _ _ _ ⟨rfl, v2, rfl, rfl⟩
      have hmin : min ps.length (16384 - rows.length) = ps.length := by omega
      have htk : css.take ps.length = css := by rw [← hcl, List.take_length]
      have hfl : rows.flatten ++ puts f css = rows'.flatten := by rw [hrows, List.flatten_append]; rfl
      have hrl' : rows.length + ps.length = rows'.length := by rw [hrows, List.length_append]; simp [putR, hcl]
      rw [hmin, htk, hfl, hrl']
      repeat (first|refine zJ rfl rfl ?_|refine jr rfl ?_|refine jn ?_|refine zM rfl rfl ?_|(refine zC rfl rfl ?_ rfl ?_;omega)|(refine zD rfl rfl ?_ rfl ?_;omega)|(refine zP rfl ?_ rfl ?_;omega)|refine zG rfl rfl rfl rfl ?_|(refine jdq rfl rfl ?_ ?_ ?_;kernel_rfl;kernel_rfl)|refine zB rfl rfl rfl (by repeat constructor) rfl ?_|refine zH .here rfl rfl rfl rfl ?_|refine zH (.there .here) rfl rfl rfl rfl ?_|refine zH (.there (.there .here)) rfl rfl rfl rfl ?_|refine zH (.there (.there (.there .here))) rfl rfl rfl rfl ?_|refine zH (.there (.there (.there (.there .here)))) rfl rfl rfl rfl ?_)
      exact J_again5 (i + 1) xs' rows' u' v2 ⟨by omega, hB', by omega⟩ (by omega) ⟨⟨rfl, rfl, rfl, rfl, rfl, rfl, rfl, trivial⟩, fun w s => (Sat.front (A := crowd b v2 rows'.length rows'.flatten) (B := [_, _]) s).drop⟩
  · obtain rfl : i = l.length := by omega
    have hn : xs.length ≤ 400 := by omega
    refine J_persist fun h' ho hdj => ?_
    have hu := own_slice ho hdj
    have hF1 : F.le (F.un h') := PH.le_l _ _
    generalize F.un h' = F1 at *
    have hB1 : Both F1 xs rows := ⟨hB.1, fun i x r h1 h2 => (hB.2 i x r h1 h2).mono hF1⟩
    obtain ⟨hrl, hok⟩ := hB1
    rw [hrl] at hu
    rw [hrl]
    have hC : Crw F1 (.pointer (some ⟨b, 0, none⟩)) (crowd b v xs.length rows.flatten) xs := Crw.of (by omega) hrl hok
    have hall : ∀ x ∈ xs, x.size ≤ 40000 := fun x hx => by
      obtain ⟨i, hi⟩ := List.mem_iff_getElem?.1 hx
      have hil := (List.getElem?_eq_some_iff.1 hi).1
      obtain ⟨_, _, _, _, _, h1, h2⟩ := hok i x _ hi (List.getElem?_eq_getElem (by omega))
      unfold SentX.size; omega
    have hT1 := hT.mono hF1
    have hofs := fun k f t => of_spec u xs rows k f t F1 hu (by omega) hrl hok
    have hrefl := refLines_spec u xs rows F1 hu (by omega) hrl hok hall
    have hlines := lines_spec _ _ xs F1 hC hT1 hall
    have hAll := all_spec _ _ xs F1 hC
    have hBy := byKind_spec _ _ xs F1 hC
    have hPair := byPair_spec _ _ xs F1 hC
    generalize hHC : crowd b v xs.length rows.flatten = HC at *
    have h0 := hofs (-1) (-1) 0
    rw [ofQ_all] at h0
    obtain ⟨N, Z, hNZ⟩ : ∃ N Z, tot allQ xs = (N, Z) := ⟨_, _, rfl⟩
    have hbd := tot_le allQ xs hall
    rw [hNZ] at h0 hAll hbd
    dsimp only at h0 hbd
    have hNl : N = xs.length := by
      have : (tot allQ xs).1 = xs.length := by unfold tot; rw [show List.filter allQ xs = xs from List.filter_eq_self.2 (fun x _ => rfl)]
      rw [hNZ] at this
      exact this
    repeat (first|refine zJ rfl rfl ?_|refine jr rfl ?_|refine jn ?_|refine zM rfl rfl ?_|(refine zC rfl rfl ?_ rfl ?_;omega)|(refine zD rfl rfl ?_ rfl ?_;omega)|(refine zP rfl ?_ rfl ?_;omega)|refine zG rfl rfl rfl rfl ?_|(refine jdq rfl rfl ?_ ?_ ?_;kernel_rfl;kernel_rfl)|refine zB rfl rfl rfl (by repeat constructor) rfl ?_|refine zH .here rfl rfl rfl rfl ?_|refine zH (.there .here) rfl rfl rfl rfl ?_|refine zH (.there (.there .here)) rfl rfl rfl rfl ?_|refine zH (.there (.there (.there .here))) rfl rfl rfl rfl ?_|refine zH (.there (.there (.there (.there .here)))) rfl rfl rfl rfl ?_)
    refine oC (Hc := []) (Hr := HC ++ X) h0 Tryd.call14 rfl rfl (fun _ s => s) ?_
    rintro _ F2 _ hF2 ⟨rfl, rfl⟩
    refine oW (F' := F1) (H' := HC ++ X) ?_ (fun w s => s.mono hF2)
    repeat (first|refine zJ rfl rfl ?_|refine jr rfl ?_|refine jn ?_|refine zM rfl rfl ?_|(refine zC rfl rfl ?_ rfl ?_;omega)|(refine zD rfl rfl ?_ rfl ?_;omega)|(refine zP rfl ?_ rfl ?_;omega)|refine zG rfl rfl rfl rfl ?_|(refine jdq rfl rfl ?_ ?_ ?_;kernel_rfl;kernel_rfl)|refine zB rfl rfl rfl (by repeat constructor) rfl ?_|refine zH .here rfl rfl rfl rfl ?_|refine zH (.there .here) rfl rfl rfl rfl ?_|refine zH (.there (.there .here)) rfl rfl rfl rfl ?_|refine zH (.there (.there (.there .here))) rfl rfl rfl rfl ?_|refine zH (.there (.there (.there (.there .here)))) rfl rfl rfl rfl ?_)
    refine oC (Hc := HC) (Hr := X) hAll Tryd.call15 rfl rfl (fun _ s => s) ?_
    rintro _ F2 H2 hF2 ⟨rfl, rfl⟩
    refine oW (F' := F1) (H' := H2 ++ X) ?_ (fun w s => s.mono hF2)
    refine oE (ev_alloc rfl) rfl ?_
    rintro _ _ _ _ ⟨rfl, b15, rfl, rfl⟩
    refine oN (ev_store (vs := cvC (N, Z)) rfl rfl .agg rfl rfl (lay_all (zs := cvC (0, 0)) rfl) (ones_cvC _) .here) rfl ?_
    rintro _ _ _ _ ⟨rfl, _, rfl⟩
    repeat (first|refine zJ rfl rfl ?_|refine jr rfl ?_|refine jn ?_|refine zM rfl rfl ?_|(refine zC rfl rfl ?_ rfl ?_;omega)|(refine zD rfl rfl ?_ rfl ?_;omega)|(refine zP rfl ?_ rfl ?_;omega)|refine zG rfl rfl rfl rfl ?_|(refine jdq rfl rfl ?_ ?_ ?_;kernel_rfl;kernel_rfl)|refine zB rfl rfl rfl (by repeat constructor) rfl ?_|refine zH .here rfl rfl rfl rfl ?_|refine zH (.there .here) rfl rfl rfl rfl ?_|refine zH (.there (.there .here)) rfl rfl rfl rfl ?_|refine zH (.there (.there (.there .here))) rfl rfl rfl rfl ?_|refine zH (.there (.there (.there (.there .here)))) rfl rfl rfl rfl ?_)
    refine oC (Hc := H2) (Hr := blk b15 38 (cvC (N, Z)) :: X) hBy Tryd.call13 rfl rfl (fun _ s => Sat.front (A := [_]) s) ?_
    rintro _ F3 H3 hF3 ⟨rfl, rfl⟩
    refine oW (F' := F1) (H' := blk b15 38 (cvC (N, Z)) :: (H3 ++ X)) ?_ (fun w s => (Sat.front (A := H3) (B := [_]) s).mono hF3)
    repeat (first|refine zJ rfl rfl ?_|refine jr rfl ?_|refine jn ?_|refine zM rfl rfl ?_|(refine zC rfl rfl ?_ rfl ?_;omega)|(refine zD rfl rfl ?_ rfl ?_;omega)|(refine zP rfl ?_ rfl ?_;omega)|refine zG rfl rfl rfl rfl ?_|(refine jdq rfl rfl ?_ ?_ ?_;kernel_rfl;kernel_rfl)|refine zB rfl rfl rfl (by repeat constructor) rfl ?_|refine zH .here rfl rfl rfl rfl ?_|refine zH (.there .here) rfl rfl rfl rfl ?_|refine zH (.there (.there .here)) rfl rfl rfl rfl ?_|refine zH (.there (.there (.there .here))) rfl rfl rfl rfl ?_|refine zH (.there (.there (.there (.there .here)))) rfl rfl rfl rfl ?_)
    have hyl : (byK xs).length = 13 := by simp [byK]
    have hkb := fun k : Nat => tot_le (at_ kindK (k : Int)) xs hall
    have hlb := fun k : Nat => tot_le (ltQ k) xs hall
    have hz0 := ltQ_zero xs
    refine J_loop (ι := Nat) (fun j => j ≤ 13) (fun j => 13 - j) (fun j => [(1, .int .i64 from_), (2, .int .i64 to), (7, .pointer (some ⟨b, 0, none⟩)), (8, u), (13, .int .i64 N), (14, .int .i64 Z), (15, .pointer (some ⟨b15, 0, none⟩)), (16, .int .i64 (tot (ltQ j) xs).1), (17, .int .i64 (tot (ltQ j) xs).2), (87, .agg (rowC cvC (byK xs)).toArray), (88, .int .i64 j)]) (fun _ => F1)
      (fun _ => blk b15 38 (cvC (N, Z)) :: (H3 ++ X)) 0 (Nat.zero_le _) (by rw [hz0]; exact ⟨⟨rfl, rfl, rfl, rfl, rfl, rfl, rfl, rfl, rfl, rfl, rfl, trivial⟩, fun w s => s⟩) ?_
    intro j hj
    by_cases hlt : j < 13
    · have hx : (byK xs)[j]? = some (kTot xs j) := by unfold byK; rw [List.getElem?_map, List.getElem?_range hlt]; rfl
      have hrow := rowC_at cvC_len hx
      have hof := hofs (j : Int) (-1) 0
      rw [ofQ_kind (by omega)] at hof
      change Spec _ _ _ _ _ (fun u _ H' => u = .tuple #[.int .i64 (kTot xs j).1, .int .i64 (kTot xs j).2] ∧ H' = []) at hof
      have hs := ltQ_succ j xs
      have hb1 := hkb j
      have hb2 := hlb j
      change (kTot xs j).1 ≤ _ ∧ (kTot xs j).2 ≤ _ at hb1
      generalize hr : tot (ltQ (j + 1)) xs = r' at hs
      generalize tot (ltQ j) xs = r at *
      generalize kTot xs j = y at *
      obtain ⟨m, z⟩ := y
      obtain ⟨sm, sz⟩ := r
      obtain ⟨sm', sz'⟩ := r'
      dsimp only at *
      obtain ⟨hs1, hs2⟩ := hs
      subst hs1 hs2
      repeat (first|refine zJ rfl rfl ?_|refine jr rfl ?_|refine jn ?_|refine zM rfl rfl ?_|(refine zC rfl rfl ?_ rfl ?_;omega)|(refine zD rfl rfl ?_ rfl ?_;omega)|(refine zP rfl ?_ rfl ?_;omega)|refine zG rfl rfl rfl rfl ?_|(refine jdq rfl rfl ?_ ?_ ?_;kernel_rfl;kernel_rfl)|refine zB rfl rfl rfl (by repeat constructor) rfl ?_|refine zH .here rfl rfl rfl rfl ?_|refine zH (.there .here) rfl rfl rfl rfl ?_|refine zH (.there (.there .here)) rfl rfl rfl rfl ?_|refine zH (.there (.there (.there .here))) rfl rfl rfl rfl ?_|refine zH (.there (.there (.there (.there .here)))) rfl rfl rfl rfl ?_)
      refine oS (ev_index_n (i := j) rfl rfl rfl rfl hlt) rfl ?_
      rw [hrow]
      refine oE (ev_alloc rfl) rfl ?_
      rintro _ _ _ _ ⟨rfl, b19, rfl, rfl⟩
      repeat (first|refine zJ rfl rfl ?_|refine jr rfl ?_|refine jn ?_|refine zM rfl rfl ?_|(refine zC rfl rfl ?_ rfl ?_;omega)|(refine zD rfl rfl ?_ rfl ?_;omega)|(refine zP rfl ?_ rfl ?_;omega)|refine zG rfl rfl rfl rfl ?_|(refine jdq rfl rfl ?_ ?_ ?_;kernel_rfl;kernel_rfl)|refine zB rfl rfl rfl (by repeat constructor) rfl ?_|refine zH .here rfl rfl rfl rfl ?_|refine zH (.there .here) rfl rfl rfl rfl ?_|refine zH (.there (.there .here)) rfl rfl rfl rfl ?_|refine zH (.there (.there (.there .here))) rfl rfl rfl rfl ?_|refine zH (.there (.there (.there (.there .here)))) rfl rfl rfl rfl ?_)
      refine oN (ev_store (vs := cvC (m, z)) rfl rfl .agg rfl rfl (lay_all (zs := cvC (0, 0)) rfl) (ones_cvC _) .here) rfl ?_
      rintro _ _ _ _ ⟨rfl, _, rfl⟩
      repeat (first|refine zJ rfl rfl ?_|refine jr rfl ?_|refine jn ?_|refine zM rfl rfl ?_|(refine zC rfl rfl ?_ rfl ?_;omega)|(refine zD rfl rfl ?_ rfl ?_;omega)|(refine zP rfl ?_ rfl ?_;omega)|refine zG rfl rfl rfl rfl ?_|(refine jdq rfl rfl ?_ ?_ ?_;kernel_rfl;kernel_rfl)|refine zB rfl rfl rfl (by repeat constructor) rfl ?_|refine zH .here rfl rfl rfl rfl ?_|refine zH (.there .here) rfl rfl rfl rfl ?_|refine zH (.there (.there .here)) rfl rfl rfl rfl ?_|refine zH (.there (.there (.there .here))) rfl rfl rfl rfl ?_|refine zH (.there (.there (.there (.there .here)))) rfl rfl rfl rfl ?_)
      refine oC (Hc := []) (Hr := blk b19 38 (cvC (m, z)) :: blk b15 38 (cvC (N, Z)) :: (H3 ++ X)) hof Tryd.call14 rfl rfl (fun _ s => s) ?_
      rintro _ F4 _ hF4 ⟨rfl, rfl⟩
      refine oW (F' := F1) (H' := blk b19 38 [.int .i64 m, .int .i64 z] :: blk b15 38 (cvC (N, Z)) :: (H3 ++ X)) ?_ (fun w s => s.mono hF4)
      repeat (first|refine zJ rfl rfl ?_|refine jr rfl ?_|refine jn ?_|refine zM rfl rfl ?_|(refine zC rfl rfl ?_ rfl ?_;omega)|(refine zD rfl rfl ?_ rfl ?_;omega)|(refine zP rfl ?_ rfl ?_;omega)|refine zG rfl rfl rfl rfl ?_|(refine jdq rfl rfl ?_ ?_ ?_;kernel_rfl;kernel_rfl)|refine zB rfl rfl rfl (by repeat constructor) rfl ?_|refine zH .here rfl rfl rfl rfl ?_|refine zH (.there .here) rfl rfl rfl rfl ?_|refine zH (.there (.there .here)) rfl rfl rfl rfl ?_|refine zH (.there (.there (.there .here))) rfl rfl rfl rfl ?_|refine zH (.there (.there (.there (.there .here)))) rfl rfl rfl rfl ?_)
      refine J_again (j + 1) (by omega) (by omega) ?_
      rw [hr]
      exact ⟨⟨rfl, rfl, rfl, rfl, rfl, rfl, rfl, rfl, rfl, rfl, rfl, trivial⟩, fun w s => s.drop⟩
    · obtain rfl : j = 13 := by omega
      rw [ltQ_all, hNZ]
      dsimp only
      repeat (first|refine zJ rfl rfl ?_|refine jr rfl ?_|refine jn ?_|refine zM rfl rfl ?_|(refine zC rfl rfl ?_ rfl ?_;omega)|(refine zD rfl rfl ?_ rfl ?_;omega)|(refine zP rfl ?_ rfl ?_;omega)|refine zG rfl rfl rfl rfl ?_|(refine jdq rfl rfl ?_ ?_ ?_;kernel_rfl;kernel_rfl)|refine zB rfl rfl rfl (by repeat constructor) rfl ?_|refine zH .here rfl rfl rfl rfl ?_|refine zH (.there .here) rfl rfl rfl rfl ?_|refine zH (.there (.there .here)) rfl rfl rfl rfl ?_|refine zH (.there (.there (.there .here))) rfl rfl rfl rfl ?_|refine zH (.there (.there (.there (.there .here)))) rfl rfl rfl rfl ?_)
      refine oC (Hc := H3) (Hr := blk b15 38 (cvC (N, Z)) :: X) hPair Tryd.call16 rfl rfl (fun _ s => Sat.front (A := [_]) s) ?_
      rintro _ F5 _ hF5 ⟨bm, rfl, rfl⟩
      refine oW (F' := F1) (H' := mp keyP bm (cntM pairK xs xs.length) :: blk b15 38 (cvC (N, Z)) :: (H3 ++ X)) ?_ (fun w s => (s.mono hF5).perm (.cons _ List.perm_middle))
      repeat (first|refine zJ rfl rfl ?_|refine jr rfl ?_|refine jn ?_|refine zM rfl rfl ?_|(refine zC rfl rfl ?_ rfl ?_;omega)|(refine zD rfl rfl ?_ rfl ?_;omega)|(refine zP rfl ?_ rfl ?_;omega)|refine zG rfl rfl rfl rfl ?_|(refine jdq rfl rfl ?_ ?_ ?_;kernel_rfl;kernel_rfl)|refine zB rfl rfl rfl (by repeat constructor) rfl ?_|refine zH .here rfl rfl rfl rfl ?_|refine zH (.there .here) rfl rfl rfl rfl ?_|refine zH (.there (.there .here)) rfl rfl rfl rfl ?_|refine zH (.there (.there (.there .here))) rfl rfl rfl rfl ?_|refine zH (.there (.there (.there (.there .here)))) rfl rfl rfl rfl ?_)
      refine oE (ev_range (K := keyP) rfl rfl .here) rfl ?_
      rintro _ _ _ _ ⟨rfl, r, es, clock, rfl, hM, hL, rfl⟩
      repeat (first|refine zJ rfl rfl ?_|refine jr rfl ?_|refine jn ?_|refine zM rfl rfl ?_|(refine zC rfl rfl ?_ rfl ?_;omega)|(refine zD rfl rfl ?_ rfl ?_;omega)|(refine zP rfl ?_ rfl ?_;omega)|refine zG rfl rfl rfl rfl ?_|(refine jdq rfl rfl ?_ ?_ ?_;kernel_rfl;kernel_rfl)|refine zB rfl rfl rfl (by repeat constructor) rfl ?_|refine zH .here rfl rfl rfl rfl ?_|refine zH (.there .here) rfl rfl rfl rfl ?_|refine zH (.there (.there .here)) rfl rfl rfl rfl ?_|refine zH (.there (.there (.there .here))) rfl rfl rfl rfl ?_|refine zH (.there (.there (.there (.there .here)))) rfl rfl rfl rfl ?_)
      have hsum := sumM_cnt pairK xs xs.length (Nat.le_refl _)
      refine J_loop (ι := Array Nat × List ((Int × Int) × Value)) (fun p => ToCome keyP es p.1 p.2 ∧ (∀ q ∈ p.2, q ∈ cntM pairK xs xs.length) ∧ sumM p.2 ≤ xs.length) (fun p => p.2.length) (fun p => [(1, .int .i64 from_), (2, .int .i64 to), (7, .pointer (some ⟨b, 0, none⟩)), (8, u), (13, .int .i64 N), (14, .int .i64 Z), (15, .pointer (some ⟨b15, 0, none⟩)), (16, .int .i64 N), (17, .int .i64 Z), (22, .map (some bm)), (23, .int .i64 ((xs.length - sumM p.2 : Nat) : Int)), (120, .pointer (some ⟨r, 0, none⟩))]) (fun _ => F1)
        (fun p => itr r bm clock p.1 :: ob bm (.map es clock) :: blk b15 38 (cvC (N, Z)) :: (H3 ++ X)) (#[], cntM pairK xs xs.length) ⟨hL, fun _ h => h, by rw [hsum]; exact Nat.le_refl _⟩ (by dsimp only; rw [hsum, Nat.sub_self]; exact ⟨⟨rfl, rfl, rfl, rfl, rfl, rfl, rfl, rfl, rfl, rfl, rfl, rfl, trivial⟩, fun w s => s⟩) ?_
      rintro ⟨seen, L⟩ ⟨hL, hsub, hle⟩
      dsimp only at *
      repeat (first|refine zJ rfl rfl ?_|refine jr rfl ?_|refine jn ?_|refine zM rfl rfl ?_|(refine zC rfl rfl ?_ rfl ?_;omega)|(refine zD rfl rfl ?_ rfl ?_;omega)|(refine zP rfl ?_ rfl ?_;omega)|refine zG rfl rfl rfl rfl ?_|(refine jdq rfl rfl ?_ ?_ ?_;kernel_rfl;kernel_rfl)|refine zB rfl rfl rfl (by repeat constructor) rfl ?_|refine zH .here rfl rfl rfl rfl ?_|refine zH (.there .here) rfl rfl rfl rfl ?_|refine zH (.there (.there .here)) rfl rfl rfl rfl ?_|refine zH (.there (.there (.there .here))) rfl rfl rfl rfl ?_|refine zH (.there (.there (.there (.there .here)))) rfl rfl rfl rfl ?_)
      refine oE (ev_next rfl hM hL (.there .here) (fun _ => .here)) rfl ?_
      rintro _ _ _ _ ⟨rfl, ⟨rfl, rfl, rfl⟩ | ⟨q, L1, L2, sb, rfl, rfl, hL2, hcm, rfl⟩⟩
      · rw [show xs.length - sumM ([] : List ((Int × Int) × Value)) = N from by rw [hNl]; rfl]
        repeat (first|refine zJ rfl rfl ?_|refine jr rfl ?_|refine jn ?_|refine zM rfl rfl ?_|(refine zC rfl rfl ?_ rfl ?_;omega)|(refine zD rfl rfl ?_ rfl ?_;omega)|(refine zP rfl ?_ rfl ?_;omega)|refine zG rfl rfl rfl rfl ?_|(refine jdq rfl rfl ?_ ?_ ?_;kernel_rfl;kernel_rfl)|refine zB rfl rfl rfl (by repeat constructor) rfl ?_|refine zH .here rfl rfl rfl rfl ?_|refine zH (.there .here) rfl rfl rfl rfl ?_|refine zH (.there (.there .here)) rfl rfl rfl rfl ?_|refine zH (.there (.there (.there .here))) rfl rfl rfl rfl ?_|refine zH (.there (.there (.there (.there .here)))) rfl rfl rfl rfl ?_)
        refine oS (ev_buildArr (t := [.int .i64 from_, .int .i64 to]) rfl rfl rfl ?_) rfl ?_
        · repeat (first | exact FillS.nil | refine FillS.cons (by constructor) rfl (by repeat constructor) ?_)
        refine oW (F' := F1) (H' := mp keyP bm (cntM pairK xs xs.length) :: itr r bm clock seen :: blk b15 38 (cvC (N, Z)) :: (H3 ++ X)) ?_ (fun w s => s.obMap hM (.there .here))
        refine oS (ev_lookup (K := keyP) (a := (from_, to)) (zv := cv (0, 0)) (r := cv (tot (at_ pairK (from_, to)) xs)) rfl rfl rfl rfl .here (by have := cntM_getD pairK xs (from_, to) (Nat.le_refl _); rw [List.take_length] at this; exact this.symm)) rfl ?_
        have hb4 := tot_le (at_ pairK (from_, to)) xs hall
        obtain ⟨m2, z2, hm2⟩ : ∃ m2 z2, tot (at_ pairK (from_, to)) xs = (m2, z2) := ⟨_, _, rfl⟩
        rw [hm2] at hb4 ⊢
        dsimp only at hb4
        refine oE (ev_alloc rfl) rfl ?_
        rintro _ _ _ _ ⟨rfl, b26, rfl, rfl⟩
        refine oN (ev_store (vs := cvC (m2, z2)) rfl rfl .agg rfl rfl (lay_all (zs := cvC (0, 0)) rfl) (ones_cvC _) .here) rfl ?_
        rintro _ _ _ _ ⟨rfl, _, rfl⟩
        have hrefl8 : ∀ F8, F1.le F8 → Spec Tryd.prog 19 [u] F8 [] fun u _ H' => H' = [own u 9 1 (lineS xs 13).length (strC (lineS xs 13))] := fun F8 h8 => refLines_spec u xs rows F8 (SliceV.mono hu h8) (by omega) hrl (fun i x r h1 h2 => (hok i x r h1 h2).mono h8) hall
        unfold cvC
        dsimp only
        by_cases hf : 0 ≤ from_
        · have h4 := hofs (-1) from_ to
          rw [ofQ_pair hf, hm2] at h4
          dsimp only at h4
          repeat (first|refine zJ rfl rfl ?_|refine jr rfl ?_|refine jn ?_|refine zM rfl rfl ?_|(refine zC rfl rfl ?_ rfl ?_;omega)|(refine zD rfl rfl ?_ rfl ?_;omega)|(refine zP rfl ?_ rfl ?_;omega)|refine zG rfl rfl rfl rfl ?_|(refine jdq rfl rfl ?_ ?_ ?_;kernel_rfl;kernel_rfl)|refine zB rfl rfl rfl (by repeat constructor) rfl ?_|refine zH .here rfl rfl rfl rfl ?_|refine zH (.there .here) rfl rfl rfl rfl ?_|refine zH (.there (.there .here)) rfl rfl rfl rfl ?_|refine zH (.there (.there (.there .here))) rfl rfl rfl rfl ?_|refine zH (.there (.there (.there (.there .here)))) rfl rfl rfl rfl ?_)
          rw [show max from_ 0 = from_ from Int.max_eq_left hf]
          refine oC (Hc := []) (Hr := blk b26 38 [.int .i64 m2, .int .i64 z2] :: mp keyP bm (cntM pairK xs xs.length) :: itr r bm clock seen :: blk b15 38 [.int .i64 N, .int .i64 Z] :: (H3 ++ X)) h4 Tryd.call14 rfl rfl (fun _ s => s) ?_
          rintro _ F6 _ hF6 ⟨rfl, rfl⟩
          refine oW (F' := F1) (H' := blk b26 38 [.int .i64 m2, .int .i64 z2] :: mp keyP bm (cntM pairK xs xs.length) :: itr r bm clock seen :: blk b15 38 [.int .i64 N, .int .i64 Z] :: (H3 ++ X)) ?_ (fun w s => s.mono hF6)
          repeat (first|refine zJ rfl rfl ?_|refine jr rfl ?_|refine jn ?_|refine zM rfl rfl ?_|(refine zC rfl rfl ?_ rfl ?_;omega)|(refine zD rfl rfl ?_ rfl ?_;omega)|(refine zP rfl ?_ rfl ?_;omega)|refine zG rfl rfl rfl rfl ?_|(refine jdq rfl rfl ?_ ?_ ?_;kernel_rfl;kernel_rfl)|refine zB rfl rfl rfl (by repeat constructor) rfl ?_|refine zH .here rfl rfl rfl rfl ?_|refine zH (.there .here) rfl rfl rfl rfl ?_|refine zH (.there (.there .here)) rfl rfl rfl rfl ?_|refine zH (.there (.there (.there .here))) rfl rfl rfl rfl ?_|refine zH (.there (.there (.there (.there .here)))) rfl rfl rfl rfl ?_)
          refine oC (Hc := H3) (Hr := blk b26 38 [.int .i64 m2, .int .i64 z2] :: mp keyP bm (cntM pairK xs xs.length) :: itr r bm clock seen :: blk b15 38 [.int .i64 N, .int .i64 Z] :: X) hlines Tryd.call18 rfl rfl (fun _ s => Sat.front (A := [_, _, _, _]) s) ?_
          rintro ul F7 _ hF7 rfl
          refine oPersist fun h7 ho7 hd7 => ?_
          have hul := own_slice ho7 hd7
          have hF8 : F7.le (F7.un h7) := PH.le_l _ _
          generalize F7.un h7 = F8 at *
          repeat (first|refine zJ rfl rfl ?_|refine jr rfl ?_|refine jn ?_|refine zM rfl rfl ?_|(refine zC rfl rfl ?_ rfl ?_;omega)|(refine zD rfl rfl ?_ rfl ?_;omega)|(refine zP rfl ?_ rfl ?_;omega)|refine zG rfl rfl rfl rfl ?_|(refine jdq rfl rfl ?_ ?_ ?_;kernel_rfl;kernel_rfl)|refine zB rfl rfl rfl (by repeat constructor) rfl ?_|refine zH .here rfl rfl rfl rfl ?_|refine zH (.there .here) rfl rfl rfl rfl ?_|refine zH (.there (.there .here)) rfl rfl rfl rfl ?_|refine zH (.there (.there (.there .here))) rfl rfl rfl rfl ?_|refine zH (.there (.there (.there (.there .here)))) rfl rfl rfl rfl ?_)
          refine oC (Hc := []) (Hr := H3 ++ (blk b26 38 [.int .i64 m2, .int .i64 z2] :: mp keyP bm (cntM pairK xs xs.length) :: itr r bm clock seen :: blk b15 38 [.int .i64 N, .int .i64 Z] :: X)) (hrefl8 F8 (hF7.trans hF8)) Tryd.call19 rfl rfl (fun _ s => s) ?_
          rintro um F9 _ hF9 rfl
          refine oPersist fun h9 ho9 hd9 => ?_
          have hum := own_slice ho9 hd9
          have hF10 : F9.le (F9.un h9) := PH.le_l _ _
          generalize F9.un h9 = F10 at *
          refine oP (sameT_spec ul um (lineS xs 13) F10 (SliceV.mono hul (hF9.trans hF10)) hum (Nat.le_trans (lineS_len xs 13) (by omega))) Tryd.call17 rfl rfl ?_
          repeat (first|refine zJ rfl rfl ?_|refine jr rfl ?_|refine jn ?_|refine zM rfl rfl ?_|(refine zC rfl rfl ?_ rfl ?_;omega)|(refine zD rfl rfl ?_ rfl ?_;omega)|(refine zP rfl ?_ rfl ?_;omega)|refine zG rfl rfl rfl rfl ?_|(refine jdq rfl rfl ?_ ?_ ?_;kernel_rfl;kernel_rfl)|refine zB rfl rfl rfl (by repeat constructor) rfl ?_|refine zH .here rfl rfl rfl rfl ?_|refine zH (.there .here) rfl rfl rfl rfl ?_|refine zH (.there (.there .here)) rfl rfl rfl rfl ?_|refine zH (.there (.there (.there .here))) rfl rfl rfl rfl ?_|refine zH (.there (.there (.there (.there .here)))) rfl rfl rfl rfl ?_)
          exact J_retv rfl (.tmp rfl .nil) [] (fun w s => Sat.leftL (A := X) (B := H3) ((Sat.front (A := H3) (B := [_, _, _, _]) (C := X) s).drop.drop.drop.drop.perm List.perm_append_comm)) (hF1.trans (hF7.trans (hF8.trans (hF9.trans hF10)))) ⟨rfl, rfl⟩
        · have h4 := hofs (-1) (max from_ 0) to
          generalize tot (ofQ (-1) (max from_ 0) to) xs = t4 at h4
          obtain ⟨m4, z4⟩ := t4
          dsimp only at h4
          repeat (first|refine zJ rfl rfl ?_|refine jr rfl ?_|refine jn ?_|refine zM rfl rfl ?_|(refine zC rfl rfl ?_ rfl ?_;omega)|(refine zD rfl rfl ?_ rfl ?_;omega)|(refine zP rfl ?_ rfl ?_;omega)|refine zG rfl rfl rfl rfl ?_|(refine jdq rfl rfl ?_ ?_ ?_;kernel_rfl;kernel_rfl)|refine zB rfl rfl rfl (by repeat constructor) rfl ?_|refine zH .here rfl rfl rfl rfl ?_|refine zH (.there .here) rfl rfl rfl rfl ?_|refine zH (.there (.there .here)) rfl rfl rfl rfl ?_|refine zH (.there (.there (.there .here))) rfl rfl rfl rfl ?_|refine zH (.there (.there (.there (.there .here)))) rfl rfl rfl rfl ?_)
          refine oC (Hc := []) (Hr := blk b26 38 [.int .i64 m2, .int .i64 z2] :: mp keyP bm (cntM pairK xs xs.length) :: itr r bm clock seen :: blk b15 38 [.int .i64 N, .int .i64 Z] :: (H3 ++ X)) h4 Tryd.call14 rfl rfl (fun _ s => s) ?_
          rintro _ F6 _ hF6 ⟨rfl, rfl⟩
          refine oW (F' := F1) (H' := blk b26 38 [.int .i64 m2, .int .i64 z2] :: mp keyP bm (cntM pairK xs xs.length) :: itr r bm clock seen :: blk b15 38 [.int .i64 N, .int .i64 Z] :: (H3 ++ X)) ?_ (fun w s => s.mono hF6)
          repeat (first|refine zJ rfl rfl ?_|refine jr rfl ?_|refine jn ?_|refine zM rfl rfl ?_|(refine zC rfl rfl ?_ rfl ?_;omega)|(refine zD rfl rfl ?_ rfl ?_;omega)|(refine zP rfl ?_ rfl ?_;omega)|refine zG rfl rfl rfl rfl ?_|(refine jdq rfl rfl ?_ ?_ ?_;kernel_rfl;kernel_rfl)|refine zB rfl rfl rfl (by repeat constructor) rfl ?_|refine zH .here rfl rfl rfl rfl ?_|refine zH (.there .here) rfl rfl rfl rfl ?_|refine zH (.there (.there .here)) rfl rfl rfl rfl ?_|refine zH (.there (.there (.there .here))) rfl rfl rfl rfl ?_|refine zH (.there (.there (.there (.there .here)))) rfl rfl rfl rfl ?_)
          refine oC (Hc := H3) (Hr := blk b26 38 [.int .i64 m2, .int .i64 z2] :: mp keyP bm (cntM pairK xs xs.length) :: itr r bm clock seen :: blk b15 38 [.int .i64 N, .int .i64 Z] :: X) hlines Tryd.call18 rfl rfl (fun _ s => Sat.front (A := [_, _, _, _]) s) ?_
          rintro ul F7 _ hF7 rfl
          refine oPersist fun h7 ho7 hd7 => ?_
          have hul := own_slice ho7 hd7
          have hF8 : F7.le (F7.un h7) := PH.le_l _ _
          generalize F7.un h7 = F8 at *
          repeat (first|refine zJ rfl rfl ?_|refine jr rfl ?_|refine jn ?_|refine zM rfl rfl ?_|(refine zC rfl rfl ?_ rfl ?_;omega)|(refine zD rfl rfl ?_ rfl ?_;omega)|(refine zP rfl ?_ rfl ?_;omega)|refine zG rfl rfl rfl rfl ?_|(refine jdq rfl rfl ?_ ?_ ?_;kernel_rfl;kernel_rfl)|refine zB rfl rfl rfl (by repeat constructor) rfl ?_|refine zH .here rfl rfl rfl rfl ?_|refine zH (.there .here) rfl rfl rfl rfl ?_|refine zH (.there (.there .here)) rfl rfl rfl rfl ?_|refine zH (.there (.there (.there .here))) rfl rfl rfl rfl ?_|refine zH (.there (.there (.there (.there .here)))) rfl rfl rfl rfl ?_)
          refine oC (Hc := []) (Hr := H3 ++ (blk b26 38 [.int .i64 m2, .int .i64 z2] :: mp keyP bm (cntM pairK xs xs.length) :: itr r bm clock seen :: blk b15 38 [.int .i64 N, .int .i64 Z] :: X)) (hrefl8 F8 (hF7.trans hF8)) Tryd.call19 rfl rfl (fun _ s => s) ?_
          rintro um F9 _ hF9 rfl
          refine oPersist fun h9 ho9 hd9 => ?_
          have hum := own_slice ho9 hd9
          have hF10 : F9.le (F9.un h9) := PH.le_l _ _
          generalize F9.un h9 = F10 at *
          refine oP (sameT_spec ul um (lineS xs 13) F10 (SliceV.mono hul (hF9.trans hF10)) hum (Nat.le_trans (lineS_len xs 13) (by omega))) Tryd.call17 rfl rfl ?_
          repeat (first|refine zJ rfl rfl ?_|refine jr rfl ?_|refine jn ?_|refine zM rfl rfl ?_|(refine zC rfl rfl ?_ rfl ?_;omega)|(refine zD rfl rfl ?_ rfl ?_;omega)|(refine zP rfl ?_ rfl ?_;omega)|refine zG rfl rfl rfl rfl ?_|(refine jdq rfl rfl ?_ ?_ ?_;kernel_rfl;kernel_rfl)|refine zB rfl rfl rfl (by repeat constructor) rfl ?_|refine zH .here rfl rfl rfl rfl ?_|refine zH (.there .here) rfl rfl rfl rfl ?_|refine zH (.there (.there .here)) rfl rfl rfl rfl ?_|refine zH (.there (.there (.there .here))) rfl rfl rfl rfl ?_|refine zH (.there (.there (.there (.there .here)))) rfl rfl rfl rfl ?_)
          exact J_retv rfl (.tmp rfl .nil) [] (fun w s => Sat.leftL (A := X) (B := H3) ((Sat.front (A := H3) (B := [_, _, _, _]) (C := X) s).drop.drop.drop.drop.perm List.perm_append_comm)) (hF1.trans (hF7.trans (hF8.trans (hF9.trans hF10)))) ⟨rfl, rfl⟩
      · obtain ⟨m, z, hq2, hmx⟩ := cntM_form pairK xs (hsub q (by simp))
        obtain ⟨qk, qv⟩ := q
        dsimp only at hq2
        subst hq2
        have hs1 : sumM (L1 ++ (qk, cv (m, z)) :: L2) = sumM (L1 ++ L2) + m := by simp [sumM, manyV_cv]; omega
        rw [hs1] at hle ⊢
        generalize hS : sumM (L1 ++ L2) = S at *
        obtain ⟨pp, hpp⟩ : ∃ pp, xs.length - (S + m) = pp := ⟨_, rfl⟩
        rw [hpp]
        repeat (first|refine zJ rfl rfl ?_|refine jr rfl ?_|refine jn ?_|refine zM rfl rfl ?_|(refine zC rfl rfl ?_ rfl ?_;omega)|(refine zD rfl rfl ?_ rfl ?_;omega)|(refine zP rfl ?_ rfl ?_;omega)|refine zG rfl rfl rfl rfl ?_|(refine jdq rfl rfl ?_ ?_ ?_;kernel_rfl;kernel_rfl)|refine zB rfl rfl rfl (by repeat constructor) rfl ?_|refine zH .here rfl rfl rfl rfl ?_|refine zH (.there .here) rfl rfl rfl rfl ?_|refine zH (.there (.there .here)) rfl rfl rfl rfl ?_|refine zH (.there (.there (.there .here))) rfl rfl rfl rfl ?_|refine zH (.there (.there (.there (.there .here)))) rfl rfl rfl rfl ?_)
        refine oS (ev_entry rfl hM hcm (.there .here) .here) rfl ?_
        repeat (first|refine zJ rfl rfl ?_|refine jr rfl ?_|refine jn ?_|refine zM rfl rfl ?_|(refine zC rfl rfl ?_ rfl ?_;omega)|(refine zD rfl rfl ?_ rfl ?_;omega)|(refine zP rfl ?_ rfl ?_;omega)|refine zG rfl rfl rfl rfl ?_|(refine jdq rfl rfl ?_ ?_ ?_;kernel_rfl;kernel_rfl)|refine zB rfl rfl rfl (by repeat constructor) rfl ?_|refine zH .here rfl rfl rfl rfl ?_|refine zH (.there .here) rfl rfl rfl rfl ?_|refine zH (.there (.there .here)) rfl rfl rfl rfl ?_|refine zH (.there (.there (.there .here))) rfl rfl rfl rfl ?_|refine zH (.there (.there (.there (.there .here)))) rfl rfl rfl rfl ?_)
        refine oE (ev_alloc rfl) rfl ?_
        rintro _ _ _ _ ⟨rfl, b25, rfl, rfl⟩
        refine oN (ev_store (vs := cvC (m, z)) rfl rfl .agg rfl rfl (lay_all (zs := cvC (0, 0)) rfl) (ones_cvC _) .here) rfl ?_
        rintro _ _ _ _ ⟨rfl, _, rfl⟩
        unfold cvC
        dsimp only
        repeat (first|refine zJ rfl rfl ?_|refine jr rfl ?_|refine jn ?_|refine zM rfl rfl ?_|(refine zC rfl rfl ?_ rfl ?_;omega)|(refine zD rfl rfl ?_ rfl ?_;omega)|(refine zP rfl ?_ rfl ?_;omega)|refine zG rfl rfl rfl rfl ?_|(refine jdq rfl rfl ?_ ?_ ?_;kernel_rfl;kernel_rfl)|refine zB rfl rfl rfl (by repeat constructor) rfl ?_|refine zH .here rfl rfl rfl rfl ?_|refine zH (.there .here) rfl rfl rfl rfl ?_|refine zH (.there (.there .here)) rfl rfl rfl rfl ?_|refine zH (.there (.there (.there .here))) rfl rfl rfl rfl ?_|refine zH (.there (.there (.there (.there .here)))) rfl rfl rfl rfl ?_)
        refine J_again (seen.push sb, L1 ++ L2) ⟨hL2, fun p hp => hsub p (by rcases List.mem_append.1 hp with h | h; exact List.mem_append.2 (.inl h); exact List.mem_append.2 (.inr (List.mem_cons_of_mem _ h))), by rw [hS]; omega⟩ (by simp) ?_
        dsimp only
        rw [hS, show ((xs.length - S : Nat) : Int) = (pp : Int) + (m : Int) from by omega]
        exact ⟨⟨rfl, rfl, rfl, rfl, rfl, rfl, rfl, rfl, rfl, rfl, rfl, rfl, trivial⟩, fun w s => s.drop⟩
end Go.Proofs.YtmicjjhkoicdnaaDoor
