/-
  The census: counts as plain data; what was sent, in cells. Conditions are typed with each.
  The census's count, walked. Conditions are typed with each.
-/
import Derived.Test.YtmicjjhkoicdnaaDoorLr
import Derived.Test.YtmicjjhkoicdnaaDoorCb
import Derived.Test.YtmicjjhkoicdnaaDoorWc
import Derived.Test.YtmicjjhkoicdnaaDoorKy
import Derived.Test.YtmicjjhkoicdnaaDoorKw
namespace Go.Proofs.YtmicjjhkoicdnaaDoor
open Go.RowKit
set_option maxRecDepth 100000
/-- What was sent: from whom, to whom, kind, the message's own sender, body, tags. -/
structure SentX where
  from_ : Int
  to : Int
  kind : Int
  mf : Int
  body : List UInt8
  tags : List (List UInt8)
def SentX.size (x : SentX) : Nat := x.body.length + 32 * x.tags.length + 8
def sentC (x : SentX) (vb vt : Value) : List Value := [.int .i64 x.from_, .int .i64 x.to, .int .i64 x.kind, .int .i64 x.mf, vb, vt]
/-- One that was sent, in its six cells. -/
def SentOk (F : PH) (x : SentX) (row : List Value) : Prop := ∃ vb vt, row = sentC x vb vt ∧ Byt F vb x.body ∧ Tags F vt x.tags ∧ x.body.length ≤ 1000 ∧ x.tags.length ≤ 1000
theorem SentOk.mono {F G : PH} {x : SentX} {row : List Value} (h : SentOk F x row) (hl : F.le G) : SentOk G x row := by
  obtain ⟨vb, vt, e, hb, ht, h1, h2⟩ := h
  exact ⟨vb, vt, e, SliceV.mono hb hl, ht.mono hl, h1, h2⟩
theorem SentOk.len {F : PH} {x : SentX} {row : List Value} (h : SentOk F x row) : row.length = 6 := by
  obtain ⟨vb, vt, rfl, _⟩ := h; rfl
theorem SentOk.ones {F : PH} {x : SentX} {row : List Value} (h : SentOk F x row) : Ones row := by
  obtain ⟨vb, vt, rfl, hb, ht, _⟩ := h
  obtain ⟨a, c, rfl, _⟩ := hb.form
  obtain ⟨a2, c2, rfl, _⟩ := ht.form
  unfold sentC
  (repeat (first | exact ones_nil | refine ones_cons rfl ?_))
theorem wrap_nat (k : Int) : ∃ u : Nat, IntKind.u64.wrap k = (u : Int) ∧ u < 2 ^ 64 := by
  have h1 : 0 ≤ k % 18446744073709551616 := Int.emod_nonneg _ (by decide)
  have h2 : k % 18446744073709551616 < 18446744073709551616 := Int.emod_lt_of_pos _ (by decide)
  have e : IntKind.u64.wrap k = k % 18446744073709551616 := by simp [IntKind.wrap, IntKind.signed, IntKind.bits]
  exact ⟨(k % 18446744073709551616).toNat, by rw [e]; omega, by omega⟩
/-! counts, plain -/
def tot (q : SentX → Bool) (xs : List SentX) : Nat × Nat := ((xs.filter q).length, ((xs.filter q).map SentX.size).sum)
theorem tot_nil (q : SentX → Bool) : tot q [] = (0, 0) := rfl
theorem tot_snoc (q : SentX → Bool) (xs : List SentX) (x : SentX) : tot q (xs ++ [x]) = if q x = true then ((tot q xs).1 + 1, (tot q xs).2 + x.size) else tot q xs := by
  unfold tot
  rw [List.filter_append]
  by_cases h : q x = true
  · rw [if_pos h]; simp [h]
  · rw [if_neg h]; simp [h]
theorem tot_le (q : SentX → Bool) (xs : List SentX) (hs : ∀ x ∈ xs, x.size ≤ 40000) : (tot q xs).1 ≤ xs.length ∧ (tot q xs).2 ≤ 40000 * xs.length := by
  induction xs with
  | nil => exact ⟨Nat.le_refl _, Nat.le_refl _⟩
  | cons x xs ih =>
    have h1 := ih fun y hy => hs y (List.mem_cons_of_mem _ hy)
    have h2 := hs x List.mem_cons_self
    unfold tot at *
    rw [List.filter_cons]
    split <;> simp only [List.map_cons, List.sum_cons, List.length_cons] <;> omega
theorem tot_zero {q : SentX → Bool} {xs : List SentX} (h : (tot q xs).1 = 0) : tot q xs = (0, 0) := by
  unfold tot at *
  have : xs.filter q = [] := List.length_eq_zero_iff.1 h
  rw [this]; rfl
def cv (p : Nat × Nat) : Value := .agg #[.int .i64 p.1, .int .i64 p.2]
section
variable {α : Type} [DecidableEq α]
def at_ (key : SentX → α) (a : α) : SentX → Bool := fun y => decide (key y = a)
def cntM (key : SentX → α) (xs : List SentX) : Nat → List (α × Value)
  | 0 => []
  | n + 1 => match xs[n]? with
    | none => cntM key xs n
    | some x => setK (cntM key xs n) (key x) (cv (tot (at_ key (key x)) (xs.take (n + 1))))
theorem cntM_succ {key : SentX → α} {xs : List SentX} {n : Nat} {x : SentX} (h : xs[n]? = some x) : cntM key xs (n + 1) = setK (cntM key xs n) (key x) (cv (tot (at_ key (key x)) (xs.take (n + 1)))) := by
  show (match xs[n]? with | none => cntM key xs n | some x => setK (cntM key xs n) (key x) (cv (tot (at_ key (key x)) (xs.take (n + 1))))) = _
  rw [h]
theorem take_snoc' {β : Type} {xs : List β} {n : Nat} {x : β} (h : xs[n]? = some x) : xs.take (n + 1) = xs.take n ++ [x] := by
  obtain ⟨hlt, he⟩ := List.getElem?_eq_some_iff.1 h
  rw [List.take_succ_eq_append_getElem hlt, he]
theorem cntM_get (key : SentX → α) (xs : List SentX) (a : α) : ∀ n, n ≤ xs.length → getK (cntM key xs n) a = if (tot (at_ key a) (xs.take n)).1 = 0 then none else some (cv (tot (at_ key a) (xs.take n)))
  | 0, _ => rfl
  | n + 1, h => by
    have hx : xs[n]? = some xs[n] := List.getElem?_eq_getElem h
    rw [cntM_succ hx, getK_set, cntM_get key xs a n (by omega), take_snoc' hx]
    by_cases ha : a = key xs[n]
    · subst ha
      have hq : at_ key (key xs[n]) xs[n] = true := by simp [at_]
      rw [if_pos rfl, tot_snoc, if_pos hq, if_neg (Nat.succ_ne_zero _)]
    · have hq : at_ key a xs[n] = false := by simp only [at_, decide_eq_false_iff_not]; exact fun e => ha e.symm
      rw [if_neg ha, tot_snoc, hq]
      rfl
theorem cntM_getD (key : SentX → α) (xs : List SentX) (a : α) {n : Nat} (h : n ≤ xs.length) : (getK (cntM key xs n) a).getD (cv (0, 0)) = cv (tot (at_ key a) (xs.take n)) := by
  rw [cntM_get key xs a n h]
  split
  · rename_i h0; rw [tot_zero h0]; rfl
  · rfl
theorem cntM_nodup (key : SentX → α) (xs : List SentX) : ∀ n, ((cntM key xs n).map fun p : α × Value => p.1).Nodup
  | 0 => List.nodup_nil
  | n + 1 => by
    show ((match xs[n]? with | none => cntM key xs n | some x => setK (cntM key xs n) (key x) (cv (tot (at_ key (key x)) (xs.take (n + 1))))).map fun p : α × Value => p.1).Nodup
    cases xs[n]? with
    | none => exact cntM_nodup key xs n
    | some x => exact setK_nodup (cntM_nodup key xs n) _ _
end
/-- A crowd, however it stands: what Len and At say of it. -/
structure Crw (F : PH) (pc : Value) (HC : List Asrt) (xs : List SentX) : Prop where
  n : xs.length ≤ 16384
  len : Spec Tryd.prog 32 [pc] F HC fun u _ H' => u = .int .i64 xs.length ∧ H' = HC
  at_ : ∀ (i : Nat) (x : SentX), xs[i]? = some x → ∃ row, SentOk F x row ∧ Spec Tryd.prog 33 [pc, .int .i64 i] F HC fun u _ H' => u = .tuple #[.agg row.toArray, .bool true] ∧ H' = HC
theorem Crw.nil (F : PH) : Crw F (.pointer none) [] [] where
  n := Nat.zero_le _
  len := len_nil F
  at_ := fun i x h => by cases h
end Go.Proofs.YtmicjjhkoicdnaaDoor
namespace Go.Proofs.YtmicjjhkoicdnaaDoor
open Go.RowKit
set_option maxRecDepth 100000
theorem Sat.leftL {F : PH} {A B : List Asrt} {w : World} (s : Sat F (A ++ B) w) : Sat F A w := by
  obtain ⟨r, hr, hd, hl⟩ := s
  obtain ⟨a, b, ha, hb, hab, rfl⟩ := Star.append.1 hr
  exact ⟨a, ha, hd.mono_r (PH.le_l _ _), PH.un_le ((PH.le_l _ _).trans hl) ((PH.le_l _ _).trans ((PH.le_r hd).trans hl))⟩
def keyI : KeyT Tryd.prog 3 Int := keyInt Tryd.underlying3
set_option maxHeartbeats 8000000 in
theorem countI_spec (pc : Value) (HC : List Asrt) (xs : List SentX) (fk : FuncId) (key : SentX → Int) (F : PH) (hC : Crw F pc HC xs) (hfk : ∀ args w, (callFunc fk args).run Tryd.prog w = .ok (.enter fk args) w)
    (hkey : ∀ x row G, SentOk G x row → Pure Tryd.prog fk [.agg row.toArray] G (keyI.val (key x))) :
    Spec Tryd.prog 23 [pc, fnV fk []] F HC fun u _ H' => ∃ bm, u = .map (some bm) ∧ H' = mp keyI bm (cntM key xs xs.length) :: HC := by
  refine Spec.of2 Tryd.func23 rfl rfl fun X w0 => ?_
  repeat (first|refine zJ rfl rfl ?_|refine jr rfl ?_|refine jn ?_|refine zM rfl rfl ?_|(refine zC rfl rfl ?_ rfl ?_;omega)|(refine zD rfl rfl ?_ rfl ?_;omega)|(refine zP rfl ?_ rfl ?_;omega)|refine zG rfl rfl rfl rfl ?_|(refine jdq rfl rfl ?_ ?_ ?_;kernel_rfl;kernel_rfl)|refine zB rfl rfl rfl (by repeat constructor) rfl ?_|refine zH .here rfl rfl rfl rfl ?_|refine zH (.there .here) rfl rfl rfl rfl ?_|refine zH (.there (.there .here)) rfl rfl rfl rfl ?_|refine zH (.there (.there (.there .here))) rfl rfl rfl rfl ?_|refine zH (.there (.there (.there (.there .here)))) rfl rfl rfl rfl ?_)
  refine oE (ev_makeMap (K := keyI)) rfl ?_
  rintro _ _ _ _ ⟨rfl, bm, rfl, rfl⟩
  repeat (first|refine zJ rfl rfl ?_|refine jr rfl ?_|refine jn ?_|refine zM rfl rfl ?_|(refine zC rfl rfl ?_ rfl ?_;omega)|(refine zD rfl rfl ?_ rfl ?_;omega)|(refine zP rfl ?_ rfl ?_;omega)|refine zG rfl rfl rfl rfl ?_|(refine jdq rfl rfl ?_ ?_ ?_;kernel_rfl;kernel_rfl)|refine zB rfl rfl rfl (by repeat constructor) rfl ?_|refine zH .here rfl rfl rfl rfl ?_|refine zH (.there .here) rfl rfl rfl rfl ?_|refine zH (.there (.there .here)) rfl rfl rfl rfl ?_|refine zH (.there (.there (.there .here))) rfl rfl rfl rfl ?_|refine zH (.there (.there (.there (.there .here)))) rfl rfl rfl rfl ?_)
  refine oC (Hc := HC) (Hr := mp keyI bm [] :: X) hC.len Tryd.call32 rfl rfl (fun _ s => Sat.front (A := [_]) s) ?_
  rintro _ F1 H1 hF1 ⟨rfl, rfl⟩
  repeat (first|refine zJ rfl rfl ?_|refine jr rfl ?_|refine jn ?_|refine zM rfl rfl ?_|(refine zC rfl rfl ?_ rfl ?_;omega)|(refine zD rfl rfl ?_ rfl ?_;omega)|(refine zP rfl ?_ rfl ?_;omega)|refine zG rfl rfl rfl rfl ?_|(refine jdq rfl rfl ?_ ?_ ?_;kernel_rfl;kernel_rfl)|refine zB rfl rfl rfl (by repeat constructor) rfl ?_|refine zH .here rfl rfl rfl rfl ?_|refine zH (.there .here) rfl rfl rfl rfl ?_|refine zH (.there (.there .here)) rfl rfl rfl rfl ?_|refine zH (.there (.there (.there .here))) rfl rfl rfl rfl ?_|refine zH (.there (.there (.there (.there .here)))) rfl rfl rfl rfl ?_)
  have hn := hC.n
  have hall : ∀ x ∈ xs, x.size ≤ 40000 := fun x hx => by
    obtain ⟨i, hi⟩ := List.mem_iff_getElem?.1 hx
    obtain ⟨row, ⟨_, _, _, _, _, h1, h2⟩, _⟩ := hC.at_ i x hi
    unfold SentX.size; omega
  refine J_loop (ι := Nat) (fun i => i ≤ xs.length) (fun i => xs.length - i) (fun i => [(0, pc), (1, fnV fk []), (5, .map (some bm)), (12, .int .i64 xs.length), (13, .int .i64 i)]) (fun _ => F)
    (fun i => mp keyI bm (cntM key xs i) :: (H1 ++ X)) 0 (Nat.zero_le _) ⟨⟨rfl, rfl, rfl, rfl, rfl, trivial⟩, fun w s => (Sat.front (A := H1) (B := [_]) (s.mono hF1))⟩ ?_
  intro i hi
  by_cases hlt : i < xs.length
  · have hx : xs[i]? = some xs[i] := List.getElem?_eq_getElem hlt
    obtain ⟨row, hok, hat⟩ := hC.at_ i _ hx
    generalize xs[i] = x at hx hok
    have hrow := hok
    obtain ⟨vb, vt, rfl, hb, ht, hb1, ht1⟩ := hrow
    have hsz : x.size ≤ 40000 := by unfold SentX.size; omega
    repeat (first|refine zJ rfl rfl ?_|refine jr rfl ?_|refine jn ?_|refine zM rfl rfl ?_|(refine zC rfl rfl ?_ rfl ?_;omega)|(refine zD rfl rfl ?_ rfl ?_;omega)|(refine zP rfl ?_ rfl ?_;omega)|refine zG rfl rfl rfl rfl ?_|(refine jdq rfl rfl ?_ ?_ ?_;kernel_rfl;kernel_rfl)|refine zB rfl rfl rfl (by repeat constructor) rfl ?_|refine zH .here rfl rfl rfl rfl ?_|refine zH (.there .here) rfl rfl rfl rfl ?_|refine zH (.there (.there .here)) rfl rfl rfl rfl ?_|refine zH (.there (.there (.there .here))) rfl rfl rfl rfl ?_|refine zH (.there (.there (.there (.there .here)))) rfl rfl rfl rfl ?_)
    refine oC (Hc := H1) (Hr := mp keyI bm (cntM key xs i) :: X) hat Tryd.call33 rfl rfl (fun _ s => Sat.front (A := [_]) s) ?_
    rintro _ F2 H2 hF2 ⟨rfl, rfl⟩
    refine oW (F' := F2) (H' := mp keyI bm (cntM key xs i) :: (H2 ++ X)) ?_ (fun w s => Sat.front (A := H2) (B := [_]) s)
    replace hok := hok.mono hF2
    replace hb := SliceV.mono hb hF2
    replace ht := ht.mono hF2
    have hones := hok.ones
    unfold sentC at hok hones ⊢
    repeat (first|refine zJ rfl rfl ?_|refine jr rfl ?_|refine jn ?_|refine zM rfl rfl ?_|(refine zC rfl rfl ?_ rfl ?_;omega)|(refine zD rfl rfl ?_ rfl ?_;omega)|(refine zP rfl ?_ rfl ?_;omega)|refine zG rfl rfl rfl rfl ?_|(refine jdq rfl rfl ?_ ?_ ?_;kernel_rfl;kernel_rfl)|refine zB rfl rfl rfl (by repeat constructor) rfl ?_|refine zH .here rfl rfl rfl rfl ?_|refine zH (.there .here) rfl rfl rfl rfl ?_|refine zH (.there (.there .here)) rfl rfl rfl rfl ?_|refine zH (.there (.there (.there .here))) rfl rfl rfl rfl ?_|refine zH (.there (.there (.there (.there .here)))) rfl rfl rfl rfl ?_)
    refine oE (ev_alloc rfl) rfl ?_
    rintro _ _ _ _ ⟨rfl, b7, rfl, rfl⟩
    refine oN (ev_store rfl rfl .agg rfl rfl (lay_all (zs := zSent) rfl) hones .here) rfl ?_
    rintro _ _ _ _ ⟨rfl, _, rfl⟩
    repeat (first|refine zJ rfl rfl ?_|refine jr rfl ?_|refine jn ?_|refine zM rfl rfl ?_|(refine zC rfl rfl ?_ rfl ?_;omega)|(refine zD rfl rfl ?_ rfl ?_;omega)|(refine zP rfl ?_ rfl ?_;omega)|refine zG rfl rfl rfl rfl ?_|(refine jdq rfl rfl ?_ ?_ ?_;kernel_rfl;kernel_rfl)|refine zB rfl rfl rfl (by repeat constructor) rfl ?_|refine zH .here rfl rfl rfl rfl ?_|refine zH (.there .here) rfl rfl rfl rfl ?_|refine zH (.there (.there .here)) rfl rfl rfl rfl ?_|refine zH (.there (.there (.there .here))) rfl rfl rfl rfl ?_|refine zH (.there (.there (.there (.there .here)))) rfl rfl rfl rfl ?_)
    refine oS (ev_load_agg (cs := [.int .i64 x.from_, .int .i64 x.to, .int .i64 x.kind, .int .i64 x.mf, vb, vt]) rfl rfl (Rdb.ofB (n := 0) .here rfl) rfl) rfl ?_
    refine oPF rfl (hkey x _ F2 hok) hfk rfl rfl ?_
    refine oS (ev_lookup (K := keyI) (a := key x) (zv := cv (0, 0)) (r := cv (tot (at_ key (key x)) (xs.take i))) rfl rfl rfl rfl (.there .here) (cntM_getD key xs (key x) hi).symm) rfl ?_
    obtain ⟨m, sz, hm⟩ : ∃ m sz, tot (at_ key (key x)) (xs.take i) = (m, sz) := ⟨_, _, rfl⟩
    have hbd := tot_le (at_ key (key x)) (xs.take i) fun y hy => hall y (List.mem_of_mem_take hy)
    rw [List.length_take, Nat.min_eq_left hi, hm] at hbd
    dsimp only at hbd
    have hm1 : m ≤ 16384 := by omega
    have hm2 : sz ≤ 655360000 := by omega
    rw [hm]
    unfold cv
    dsimp only
    repeat (first|refine zJ rfl rfl ?_|refine jr rfl ?_|refine jn ?_|refine zM rfl rfl ?_|(refine zC rfl rfl ?_ rfl ?_;omega)|(refine zD rfl rfl ?_ rfl ?_;omega)|(refine zP rfl ?_ rfl ?_;omega)|refine zG rfl rfl rfl rfl ?_|(refine jdq rfl rfl ?_ ?_ ?_;kernel_rfl;kernel_rfl)|refine zB rfl rfl rfl (by repeat constructor) rfl ?_|refine zH .here rfl rfl rfl rfl ?_|refine zH (.there .here) rfl rfl rfl rfl ?_|refine zH (.there (.there .here)) rfl rfl rfl rfl ?_|refine zH (.there (.there (.there .here))) rfl rfl rfl rfl ?_|refine zH (.there (.there (.there (.there .here)))) rfl rfl rfl rfl ?_)
    refine oE (ev_alloc rfl) rfl ?_
    rintro _ _ _ _ ⟨rfl, b9, rfl, rfl⟩
    refine oN (ev_store rfl rfl .agg rfl rfl (lay_all (zs := [.int .i64 0, .int .i64 0]) rfl) (by (repeat (first | exact ones_nil | refine ones_cons rfl ?_))) .here) rfl ?_
    rintro _ _ _ _ ⟨rfl, _, rfl⟩
    repeat (first|refine zJ rfl rfl ?_|refine jr rfl ?_|refine jn ?_|refine zM rfl rfl ?_|(refine zC rfl rfl ?_ rfl ?_;omega)|(refine zD rfl rfl ?_ rfl ?_;omega)|(refine zP rfl ?_ rfl ?_;omega)|refine zG rfl rfl rfl rfl ?_|(refine jdq rfl rfl ?_ ?_ ?_;kernel_rfl;kernel_rfl)|refine zB rfl rfl rfl (by repeat constructor) rfl ?_|refine zH .here rfl rfl rfl rfl ?_|refine zH (.there .here) rfl rfl rfl rfl ?_|refine zH (.there (.there .here)) rfl rfl rfl rfl ?_|refine zH (.there (.there (.there .here))) rfl rfl rfl rfl ?_|refine zH (.there (.there (.there (.there .here)))) rfl rfl rfl rfl ?_)
    refine oN (ev_store rfl rfl .int rfl rfl (.put .nil) (ones_cons rfl ones_nil) .here) rfl ?_
    rintro _ _ _ _ ⟨rfl, _, rfl⟩
    repeat (first|refine zJ rfl rfl ?_|refine jr rfl ?_|refine jn ?_|refine zM rfl rfl ?_|(refine zC rfl rfl ?_ rfl ?_;omega)|(refine zD rfl rfl ?_ rfl ?_;omega)|(refine zP rfl ?_ rfl ?_;omega)|refine zG rfl rfl rfl rfl ?_|(refine jdq rfl rfl ?_ ?_ ?_;kernel_rfl;kernel_rfl)|refine zB rfl rfl rfl (by repeat constructor) rfl ?_|refine zH .here rfl rfl rfl rfl ?_|refine zH (.there .here) rfl rfl rfl rfl ?_|refine zH (.there (.there .here)) rfl rfl rfl rfl ?_|refine zH (.there (.there (.there .here))) rfl rfl rfl rfl ?_|refine zH (.there (.there (.there (.there .here)))) rfl rfl rfl rfl ?_)
    have hwl : ∀ ku fu, (wireB ku fu x.body x.tags).length = x.size := fun ku fu => by
      unfold SentX.size wireB wireP
      rw [List.length_append, List.length_append, List.length_append, List.length_append, List.length_append, put1_len, put1_len, put4_len, put2_len, flatten_len ht.2]
      omega
    obtain ⟨ku, hku, hku2⟩ := wrap_nat x.kind
    obtain ⟨fu, hfu, hfu2⟩ := wrap_nat x.mf
    refine J_join (ι := Unit) [_] (fun _ => True) (fun _ => [(0, pc), (1, fnV fk []), (5, .map (some bm)), (12, .int .i64 xs.length), (13, .int .i64 i), (7, .pointer (some ⟨b7, 0, none⟩)), (9, .pointer (some ⟨b9, 0, none⟩))]) (fun _ => F2) (fun _ => blk b9 38 [.int .i64 (m + 1), .int .i64 (sz + x.size)] :: blk b7 49 [.int .i64 x.from_, .int .i64 x.to, .int .i64 x.kind, .int .i64 x.mf, vb, vt] :: mp keyI bm (cntM key xs i) :: (H2 ++ X)) ?_ ?_
    · show J _ (_ :: _) _ _ _
      refine ja F2 [blk b7 49 [.int .i64 x.from_, .int .i64 x.to, .int .i64 x.kind, .int .i64 x.mf, vb, vt]] ?_ ?_ ?_; kernel_rfl
      · exact fun w s => (s.pick (.there .here)).head
      refine aT 0 rfl (ev_qe rfl) rfl rfl ?_ ?_ ?_ ?_; kernel_rfl; kernel_rfl; kernel_rfl
      refine aT 2 rfl (ev_qe rfl) rfl rfl ?_ ?_ ?_ ?_; kernel_rfl; kernel_rfl; kernel_rfl
      refine aT 3 rfl (ev_qe rfl) rfl rfl ?_ ?_ ?_ ?_; kernel_rfl; kernel_rfl; kernel_rfl
      refine aT 4 rfl (ev_load_agg (cs := msgC x.kind x.mf vb vt) rfl rfl (Rdb.ofB (n := 2) .here rfl) rfl) rfl rfl ?_ ?_ ?_ ?_; kernel_rfl; kernel_rfl; kernel_rfl
      refine aB2 (i := 1) (i' := 5) (by kernel_rfl) ?_ ?_
      · refine aV rfl (ev_load (v := .int .i64 sz) rfl rfl (Rdb.ofB (n := 1) .here rfl)) rfl rfl ?_
        refine aB (i := 5) (by kernel_rfl) (aC (Hc := []) (Hr := blk b9 38 [.int .i64 (m + 1), .int .i64 sz] :: blk b7 49 [.int .i64 x.from_, .int .i64 x.to, .int .i64 x.kind, .int .i64 x.mf, vb, vt] :: mp keyI bm (cntM key xs i) :: (H2 ++ X)) rfl (bytes_spec x.kind x.mf vb vt x.body x.tags ku fu F2 hb ht (by omega) (by omega) hku hfu hku2 hfu2) Tryd.call34 rfl rfl rfl (fun _ s => s) ?_ ?_)
        · rintro v F3 _ hF3 rfl w s
          exact (s.pick (.there (.there .here))).head.mono hF3
        rintro u F3 _ hF3 rfl
        refine aOwn .here fun au cu hu' _ _ _ => ?_
        subst hu'
        refine aWeak (F' := F2) (H' := blk b9 38 [.int .i64 (m + 1), .int .i64 sz] :: blk b7 49 [.int .i64 x.from_, .int .i64 x.to, .int .i64 x.kind, .int .i64 x.mf, vb, vt] :: mp keyI bm (cntM key xs i) :: (H2 ++ X)) ?_ (fun w s => (s.pick (.there .here)).head) (fun w s => s.drop.mono hF3)
        rw [hwl]
        refine aT 6 rfl (ev_qe rfl) rfl rfl ?_ ?_ ?_ ?_; kernel_rfl; kernel_rfl; kernel_rfl
        refine aT 7 rfl (ev_add (m := sz) (n := x.size) rfl rfl (by dsimp only [InK]; omega)) rfl rfl ?_ ?_ ?_ ?_; kernel_rfl; kernel_rfl; kernel_rfl
        refine aT 8 rfl (ev_qe rfl) rfl rfl ?_ ?_ ?_ ?_; kernel_rfl; kernel_rfl; kernel_rfl
        refine aB (i := 9) (by kernel_rfl) (aN rfl (ev_store rfl rfl .int rfl rfl (.skip (.put .nil)) (ones_cons rfl ones_nil) .here) rfl ?_ ?_)
        · rintro _ _ _ _ ⟨rfl, _, rfl⟩ w s
          exact (s.pick (.there .here)).head
        rintro _ _ _ _ ⟨rfl, _, rfl⟩
        refine aD (by kernel_rfl) ?_
        exact J_joined () trivial ⟨⟨rfl, rfl, rfl, rfl, rfl, rfl, rfl, trivial⟩, fun w s => s⟩
      refine (aC (Hc := []) (Hr := blk b9 38 [.int .i64 (m + 1), .int .i64 sz] :: blk b7 49 [.int .i64 x.from_, .int .i64 x.to, .int .i64 x.kind, .int .i64 x.mf, vb, vt] :: mp keyI bm (cntM key xs i) :: (H2 ++ X)) rfl (bytes_spec x.kind x.mf vb vt x.body x.tags ku fu F2 hb ht (by omega) (by omega) hku hfu hku2 hfu2) Tryd.call34 rfl rfl rfl (fun _ s => s) ?_ ?_)
      · rintro v F3 _ hF3 rfl w s
        exact (s.pick (.there (.there .here))).head.mono hF3
      rintro u F3 _ hF3 rfl
      refine aOwn .here fun au cu hu' _ _ _ => ?_
      subst hu'
      refine aWeak (F' := F2) (H' := blk b9 38 [.int .i64 (m + 1), .int .i64 sz] :: blk b7 49 [.int .i64 x.from_, .int .i64 x.to, .int .i64 x.kind, .int .i64 x.mf, vb, vt] :: mp keyI bm (cntM key xs i) :: (H2 ++ X)) ?_ (fun w s => (s.pick (.there .here)).head) (fun w s => s.drop.mono hF3)
      rw [hwl]
      refine aT 6 rfl (ev_qe rfl) rfl rfl ?_ ?_ ?_ ?_; kernel_rfl; kernel_rfl; kernel_rfl
      refine aB (i := 1) (by kernel_rfl) (aV rfl (ev_load (v := .int .i64 sz) rfl rfl (Rdb.ofB (n := 1) .here rfl)) rfl rfl ?_)
      refine aT 7 rfl (ev_add (m := sz) (n := x.size) rfl rfl (by dsimp only [InK]; omega)) rfl rfl ?_ ?_ ?_ ?_; kernel_rfl; kernel_rfl; kernel_rfl
      refine aT 8 rfl (ev_qe rfl) rfl rfl ?_ ?_ ?_ ?_; kernel_rfl; kernel_rfl; kernel_rfl
      refine aB (i := 9) (by kernel_rfl) (aN rfl (ev_store rfl rfl .int rfl rfl (.skip (.put .nil)) (ones_cons rfl ones_nil) .here) rfl ?_ ?_)
      · rintro _ _ _ _ ⟨rfl, _, rfl⟩ w s
        exact (s.pick (.there .here)).head
      rintro _ _ _ _ ⟨rfl, _, rfl⟩
      refine aD (by kernel_rfl) ?_
      exact J_joined () trivial ⟨⟨rfl, rfl, rfl, rfl, rfl, rfl, rfl, trivial⟩, fun w s => s⟩
    intro _ _
    repeat (first|refine zJ rfl rfl ?_|refine jr rfl ?_|refine jn ?_|refine zM rfl rfl ?_|(refine zC rfl rfl ?_ rfl ?_;omega)|(refine zD rfl rfl ?_ rfl ?_;omega)|(refine zP rfl ?_ rfl ?_;omega)|refine zG rfl rfl rfl rfl ?_|(refine jdq rfl rfl ?_ ?_ ?_;kernel_rfl;kernel_rfl)|refine zB rfl rfl rfl (by repeat constructor) rfl ?_|refine zH .here rfl rfl rfl rfl ?_|refine zH (.there .here) rfl rfl rfl rfl ?_|refine zH (.there (.there .here)) rfl rfl rfl rfl ?_|refine zH (.there (.there (.there .here))) rfl rfl rfl rfl ?_|refine zH (.there (.there (.there (.there .here)))) rfl rfl rfl rfl ?_)
    refine jdl rfl ?_ ?_ ?_ ?_; kernel_rfl; kernel_rfl; kernel_rfl; dsimp only [List.dropLast]
    repeat (first|refine zJ rfl rfl ?_|refine jr rfl ?_|refine jn ?_|refine zM rfl rfl ?_|(refine zC rfl rfl ?_ rfl ?_;omega)|(refine zD rfl rfl ?_ rfl ?_;omega)|(refine zP rfl ?_ rfl ?_;omega)|refine zG rfl rfl rfl rfl ?_|(refine jdq rfl rfl ?_ ?_ ?_;kernel_rfl;kernel_rfl)|refine zB rfl rfl rfl (by repeat constructor) rfl ?_|refine zH .here rfl rfl rfl rfl ?_|refine zH (.there .here) rfl rfl rfl rfl ?_|refine zH (.there (.there .here)) rfl rfl rfl rfl ?_|refine zH (.there (.there (.there .here))) rfl rfl rfl rfl ?_|refine zH (.there (.there (.there (.there .here)))) rfl rfl rfl rfl ?_)
    refine oS (ev_load_agg (cs := [.int .i64 x.from_, .int .i64 x.to, .int .i64 x.kind, .int .i64 x.mf, vb, vt]) rfl rfl (Rdb.ofB (n := 0) (.there .here) rfl) rfl) rfl ?_
    refine oPF rfl (hkey x _ F2 hok) hfk rfl rfl ?_
    refine oS (ev_load_agg (cs := [.int .i64 (m + 1), .int .i64 (sz + x.size)]) rfl rfl (Rdb.ofB (n := 0) .here rfl) rfl) rfl ?_
    refine jn ?_
    refine jL rfl ?_
    refine oN (ev_mapUpdate (K := keyI) (M := cntM key xs i) (a := key x) rfl rfl rfl rfl (.there (.there .here))) rfl ?_
    rintro _ _ _ _ ⟨rfl, _, rfl⟩
    repeat (first|refine zJ rfl rfl ?_|refine jr rfl ?_|refine jn ?_|refine zM rfl rfl ?_|(refine zC rfl rfl ?_ rfl ?_;omega)|(refine zD rfl rfl ?_ rfl ?_;omega)|(refine zP rfl ?_ rfl ?_;omega)|refine zG rfl rfl rfl rfl ?_|(refine jdq rfl rfl ?_ ?_ ?_;kernel_rfl;kernel_rfl)|refine zB rfl rfl rfl (by repeat constructor) rfl ?_|refine zH .here rfl rfl rfl rfl ?_|refine zH (.there .here) rfl rfl rfl rfl ?_|refine zH (.there (.there .here)) rfl rfl rfl rfl ?_|refine zH (.there (.there (.there .here))) rfl rfl rfl rfl ?_|refine zH (.there (.there (.there (.there .here)))) rfl rfl rfl rfl ?_)
    have hnext : setK (cntM key xs i) (key x) (.agg #[.int .i64 (m + 1), .int .i64 (sz + x.size)]) = cntM key xs (i + 1) := by
      rw [cntM_succ hx, take_snoc' hx, tot_snoc, hm, if_pos (by simp [at_])]
      unfold cv
      simp
    refine J_again (i + 1) (by omega) (by omega) ⟨⟨rfl, rfl, rfl, rfl, rfl, trivial⟩, fun w s => ?_⟩
    rw [← hnext]
    exact s.drop.drop.mono hF2
  · obtain rfl : i = xs.length := by omega
    repeat (first|refine zJ rfl rfl ?_|refine jr rfl ?_|refine jn ?_|refine zM rfl rfl ?_|(refine zC rfl rfl ?_ rfl ?_;omega)|(refine zD rfl rfl ?_ rfl ?_;omega)|(refine zP rfl ?_ rfl ?_;omega)|refine zG rfl rfl rfl rfl ?_|(refine jdq rfl rfl ?_ ?_ ?_;kernel_rfl;kernel_rfl)|refine zB rfl rfl rfl (by repeat constructor) rfl ?_|refine zH .here rfl rfl rfl rfl ?_|refine zH (.there .here) rfl rfl rfl rfl ?_|refine zH (.there (.there .here)) rfl rfl rfl rfl ?_|refine zH (.there (.there (.there .here))) rfl rfl rfl rfl ?_|refine zH (.there (.there (.there (.there .here)))) rfl rfl rfl rfl ?_)
    exact J_ret1 rfl rfl (mp keyI bm (cntM key xs xs.length) :: H1) rfl (PH.ler _) ⟨bm, rfl, rfl⟩
end Go.Proofs.YtmicjjhkoicdnaaDoor
