/-
  A ledger's bytes tell it again; bytes that tell one are its bytes. Plain laws. Conditions are typed with each.
  The calls on ledgers whose answers the document fixes. Conditions are typed with each.
-/
import Derived.Test.YtifdlhafcfbeaaaDl
import Derived.Test.YtifdlhafcfbeaaaOk
namespace Go.Proofs.Ytifdlhafcfbeaaa
open Go.RowKit
set_option maxRecDepth 100000
theorem uN_iN {k : Nat} (h : k < 2 ^ 64) : uN (iN k) = k := by
  have e : (2 : Nat) ^ 64 = 18446744073709551616 := by decide
  have e2 : (2 : Int) ^ 64 = 18446744073709551616 := by decide
  unfold uN iN
  simp only [IntKind.wrap, IntKind.bits, IntKind.signed]
  simp [e2]
  omega
theorem iN_uN' {x : Int} (h : InK .i64 x) : iN (uN x) = x := by
  have e2 : (2 : Int) ^ 64 = 18446744073709551616 := by decide
  dsimp only [InK] at h
  unfold uN iN
  simp only [IntKind.wrap, IntKind.bits, IntKind.signed]
  simp [e2]
  omega
theorem uN_small {x : Int} (h0 : 0 ≤ x) (h1 : x < 256) : uN x % 256 = uN x := by unfold uN; omega
theorem letR_ok {x : LtX} (h : letR x = true) : x.1.length ≤ 16 ∧ 1 ≤ x.2.1 ∧ x.2.1 ≤ 7 ∧ 1 ≤ x.2.2.1 ∧ x.2.2.1 ≤ 1099511627776 ∧ 0 ≤ x.2.2.2.1 ∧ x.2.2.2.1 ≤ 1099511627776 ∧ x.2.2.2.2.1.length ≤ 200 ∧ x.2.2.2.2.2.1.length ≤ 200 := by
  unfold letR nameB at h
  rw [Bool.and_eq_true, Bool.and_eq_true, decide_eq_true_eq, decide_eq_true_eq] at h
  exact ⟨h.1.1.2, h.2⟩
theorem ouR_ok {o : OuX} (h : ouR o = true) : 0 ≤ o.1 ∧ o.1 ≤ 63 ∧ 1 ≤ o.2.1 ∧ o.2.1 ≤ 1099511627776 ∧ 0 ≤ o.2.2.1 ∧ o.2.2.1 ≤ 99 := by
  unfold ouR at h
  rwa [decide_eq_true_eq] at h
theorem risP_all {α : Type} {less : α → α → Bool} {right : α → Bool} : ∀ {L : List α} {p : Option α}, risP less right p L = true → ∀ x ∈ L, right x = true
  | [], _, _, _, hx => by cases hx
  | y :: r, p, h, x, hx => by
    have h1 : right y = true ∧ risP less right (some y) r = true := by
      cases p with
      | none => simpa [risP] using h
      | some q =>
        have := h
        simp only [risP, Bool.and_eq_true] at this
        exact this.2
    rcases List.mem_cons.1 hx with rfl | hx
    · exact h1.1
    · exact risP_all h1.2 x hx
theorem rightL_ok {l : LgX} (h : rightL l = true) : 0 ≤ l.1 ∧ l.1 ≤ 1048576 ∧ 0 ≤ l.2.1 ∧ l.2.1 ≤ 1099511627776 ∧ l.2.2.1.length ≤ 16 ∧ l.2.2.2.1.length ≤ 4 ∧ (∀ x ∈ l.2.2.1, letR x = true) ∧ ∀ o ∈ l.2.2.2.1, ouR o = true := by
  unfold rightL at h
  rw [Bool.and_eq_true, Bool.and_eq_true, decide_eq_true_eq] at h
  obtain ⟨⟨h1, h2, h3, h4, h5, h6⟩, h7, h8⟩ := h
  exact ⟨h1, h2, h3, h4, h5, h6, risP_all h7, risP_all h8⟩
/-! put, then read -/
theorem oneL_put {x : LtX} (h : letR x = true) (rest : List UInt8) : oneL 0 (letB x ++ rest) = (x, 0, rest) := by
  obtain ⟨h0, h1, h2, h3, h4, h5, h6, h7, h8⟩ := letR_ok h
  obtain ⟨nm, st, am, du, po, pa, _⟩ := x
  dsimp only at h0 h1 h2 h3 h4 h5 h6 h7 h8
  have k1 : InK .i64 st := by dsimp only [InK]; omega
  have k2 : InK .i64 am := by dsimp only [InK]; omega
  have k3 : InK .i64 du := by dsimp only [InK]; omega
  have e : letB (nm, st, am, du, po, pa, ()) ++ rest = putB nm.length 4 ++ (nm ++ (putB (uN st) 1 ++ (putB (uN am) 8 ++ (putB (uN du) 8 ++ (putB po.length 4 ++ (po ++ (putB pa.length 4 ++ (pa ++ rest)))))))) := by
    unfold letB letB1 letB2 letB3 rowB
    simp only [List.append_assoc]
  rw [e]
  have q6 := rowR_put (row := pa) (rest := rest) (by omega) 200 (by omega)
  have q5 := rowR_put (row := po) (rest := putB pa.length 4 ++ (pa ++ rest)) (by omega) 200 (by omega)
  have q4 := num8 (uN_lt du) (putB po.length 4 ++ (po ++ (putB pa.length 4 ++ (pa ++ rest))))
  have q3 := num8 (uN_lt am) (putB (uN du) 8 ++ (putB po.length 4 ++ (po ++ (putB pa.length 4 ++ (pa ++ rest)))))
  have q2 := num1 (uN_lt st) (putB (uN am) 8 ++ (putB (uN du) 8 ++ (putB po.length 4 ++ (po ++ (putB pa.length 4 ++ (pa ++ rest))))))
  have q1 := rowR_put (row := nm) (rest := putB (uN st) 1 ++ (putB (uN am) 8 ++ (putB (uN du) 8 ++ (putB po.length 4 ++ (po ++ (putB pa.length 4 ++ (pa ++ rest))))))) (by omega) 16 (by omega)
  rw [oneL_eq q1 q2 q3 q4 q5 q6]
  dsimp only
  rw [uN_small (by omega) (by omega), iN_uN' k1, iN_uN' k2, iN_uN' k3]
theorem oneO_put {o : OuX} (h : ouR o = true) (rest : List UInt8) : oneO 0 (ouB o ++ rest) = (o, 0, rest) := by
  obtain ⟨h0, h1, h2, h3, h4, h5⟩ := ouR_ok h
  obtain ⟨c, st, r, _⟩ := o
  dsimp only at h0 h1 h2 h3 h4 h5
  have k1 : InK .i64 c := by dsimp only [InK]; omega
  have k2 : InK .i64 st := by dsimp only [InK]; omega
  have k3 : InK .i64 r := by dsimp only [InK]; omega
  have e : ouB (c, st, r, ()) ++ rest = putB (uN c) 1 ++ (putB (uN st) 8 ++ (putB (uN r) 1 ++ rest)) := by
    unfold ouB
    simp only [List.append_assoc]
  rw [e]
  have q3 := num1 (uN_lt r) rest
  have q2 := num8 (uN_lt st) (putB (uN r) 1 ++ rest)
  have q1 := num1 (uN_lt c) (putB (uN st) 8 ++ (putB (uN r) 1 ++ rest))
  rw [oneO_eq q1 q2 q3]
  dsimp only
  rw [uN_small h0 (by omega), uN_small h4 (by omega), iN_uN' k1, iN_uN' k2, iN_uN' k3]
theorem manyR_put {α : Type} {one : Int → List UInt8 → α × Int × List UInt8} {f : α → List UInt8} {L : List α} (h : ∀ x ∈ L, ∀ rest, one 0 (f x ++ rest) = (x, 0, rest)) (rest : List UInt8) : ∀ j, j ≤ L.length → manyR one 0 (flatB f L ++ rest) j = (L.take j, 0, flatB f (L.drop j) ++ rest)
  | 0, _ => rfl
  | j + 1, hj => by
    have ih := manyR_put h rest j (by omega)
    have g1 : L[j]? = some (L[j]'hj) := List.getElem?_eq_getElem hj
    have hm := List.getElem_mem hj
    have htk : L.take (j + 1) = L.take j ++ [L[j]'hj] := List.take_succ_eq_append_getElem hj
    have hdr : L.drop j = L[j]'hj :: L.drop (j + 1) := List.drop_eq_getElem_cons hj
    generalize L[j]'hj = x at *
    have e : flatB f (L.drop j) ++ rest = f x ++ (flatB f (L.drop (j + 1)) ++ rest) := by
      rw [hdr]
      show (f x ++ flatB f (L.drop (j + 1))) ++ rest = _
      rw [List.append_assoc]
    show ((manyR one 0 (flatB f L ++ rest) j).1 ++ [(one (manyR one 0 (flatB f L ++ rest) j).2.1 (manyR one 0 (flatB f L ++ rest) j).2.2).1], (one (manyR one 0 (flatB f L ++ rest) j).2.1 (manyR one 0 (flatB f L ++ rest) j).2.2).2) = _
    rw [ih]
    dsimp only
    rw [e, h x hm, htk]
theorem cntR_put {n : Nat} {m : Int} (hn : (n : Int) ≤ m) (h : n < 65536) (rest : List UInt8) : cntR 0 (putB n 2 ++ rest) m = ((n : Int), 0, rest) := by
  rw [cntR_eq, num2 h]
  dsimp only
  rw [if_neg (by omega)]
theorem parse_bytes {l : LgX} (h : rightL l = true) : parseL (bytesL l) = (l, 0) := by
  obtain ⟨h1, h2, h3, h4, h5, h6, h7, h8⟩ := rightL_ok h
  obtain ⟨s, t, L, O, _⟩ := l
  dsimp only at h1 h2 h3 h4 h5 h6 h7 h8
  have k1 : InK .i64 s := by dsimp only [InK]; omega
  have k2 : InK .i64 t := by dsimp only [InK]; omega
  have e : bytesL (s, t, L, O, ()) = putB (uN s) 8 ++ (putB (uN t) 8 ++ (putB L.length 2 ++ (flatB letB L ++ (putB O.length 2 ++ (flatB ouB O ++ []))))) := by
    unfold bytesL lgPre
    simp only [List.append_assoc, List.append_nil]
  have hhead : headR (bytesL (s, t, L, O, ())) = ((s, t, L.length), 0, flatB letB L ++ (putB O.length 2 ++ (flatB ouB O ++ []))) := by
    rw [e]
    rw [headR_eq (num8 (uN_lt s) _) (num8 (uN_lt t) _) (cntR_put (by omega) (by omega) _)]
    dsimp only
    rw [iN_uN' k1, iN_uN' k2, Int.toNat_natCast]
  have hlet : lettersR (bytesL (s, t, L, O, ())) L.length = (L, 0, putB O.length 2 ++ (flatB ouB O ++ [])) := by
    unfold lettersR
    rw [hhead]
    dsimp only
    rw [manyR_put (f := letB) (fun x hx rest => oneL_put (h7 x hx) rest) _ L.length (Nat.le_refl _), List.take_length, List.drop_length]
    rfl
  have hcnt : cntO (bytesL (s, t, L, O, ())) = ((O.length : Int), 0, flatB ouB O ++ []) := by
    unfold cntO
    rw [hhead]
    dsimp only
    rw [hlet]
    exact cntR_put (by omega) (by omega) _
  have hout : outsR (bytesL (s, t, L, O, ())) O.length = (O, 0, []) := by
    unfold outsR
    rw [hcnt]
    dsimp only
    rw [manyR_put (f := ouB) (fun x hx rest => oneO_put (h8 x hx) rest) _ O.length (Nat.le_refl _), List.take_length, List.drop_length]
    rfl
  have hrd : readR (bytesL (s, t, L, O, ())) = ((s, t, L, O, ()), 0) := by
    unfold readR
    rw [hcnt]
    dsimp only
    rw [Int.toNat_natCast, hhead]
    dsimp only
    rw [hlet, hout]
    rfl
  unfold parseL
  rw [hrd]
  dsimp only
  rw [if_pos ⟨rfl, h⟩]
/-! read, then put -/
theorem numB_inj : ∀ (n : Nat) (a b : List UInt8), a.length = n → b.length = n → numB a = numB b → a = b
  | 0, a, b, ha, hb, _ => by rw [List.eq_nil_of_length_eq_zero ha, List.eq_nil_of_length_eq_zero hb]
  | n + 1, a, b, ha, hb, h => by
    rcases List.eq_nil_or_concat a with rfl | ⟨a', x, rfl⟩
    · simp at ha
    rcases List.eq_nil_or_concat b with rfl | ⟨b', y, rfl⟩
    · simp at hb
    simp only [List.concat_eq_append] at *
    rw [numB_snoc, numB_snoc] at h
    have hx := x.toNat_lt
    have hy := y.toNat_lt
    have e1 : x = y := UInt8.toNat_inj.1 (by omega)
    have e2 := numB_inj n a' b' (by simpa using ha) (by simpa using hb) (by omega)
    rw [e1, e2]
theorem putB_numB {w : List UInt8} {m : Nat} (hm : m = 1 ∨ m = 2 ∨ m = 4 ∨ m = 8) (hw : w.length = m) : putB (numB w) m = w := by
  have h1 := numB_lt m w hw
  have h2 : (256 : Nat) ^ m ≤ 2 ^ 64 := by rcases hm with rfl | rfl | rfl | rfl <;> decide
  refine numB_inj m _ _ (putB_len (sizeB_of hm)) hw ?_
  rw [numB_putB hm (by omega), Nat.mod_eq_of_lt h1]
theorem numR_back {e : Int} {bs : List UInt8} {m : Nat} (hm : m = 1 ∨ m = 2 ∨ m = 4 ∨ m = 8) (h : (numR e bs m).2.1 = 0) : e = 0 ∧ bs = putB (numR e bs m).1 m ++ (numR e bs m).2.2 ∧ (numR e bs m).1 < 2 ^ 64 := by
  have h2 : (256 : Nat) ^ m ≤ 2 ^ 64 := by rcases hm with rfl | rfl | rfl | rfl <;> decide
  have hk := numR_ok h
  obtain ⟨he, hs, hlt⟩ := hk
  subst he
  rw [Int.toNat_natCast] at hlt
  unfold numR at h ⊢
  rw [if_neg (by rw [sizeB_of hm]; simp)] at h ⊢
  dsimp only at h ⊢
  obtain ⟨_, _, h3, h4, h5⟩ := fixR_ok h
  rw [h4, h5, Int.toNat_natCast]
  have hl : (bs.take m).length = m := by rw [List.length_take]; omega
  refine ⟨rfl, ?_, ?_⟩
  · rw [putB_numB hm hl, List.take_append_drop]
  · have := numB_lt m _ hl
    omega
theorem rowR_back {e : Int} {bs : List UInt8} {m : Int} (h : (rowR e bs m).2.1 = 0) : e = 0 ∧ bs = rowB (rowR e bs m).1 ++ (rowR e bs m).2.2 := by
  rw [rowR_eq] at h ⊢
  split at h
  · rename_i h1
    exact absurd h h1
  · rename_i h1
    rw [if_neg h1]
    split at h
    · cases h
    · rename_i h2
      rw [if_neg h2]
      obtain ⟨he, hb, hlt⟩ := numR_back (m := 4) (by omega) (by simpa using h1 : (numR e bs (4 : Nat)).2.1 = 0)
      obtain ⟨_, _, h3, h4, h5⟩ := fixR_ok h
      refine ⟨he, ?_⟩
      rw [h4, h5]
      unfold rowB
      have hl : ((numR e bs 4).2.2.take ((numR e bs 4).1 : Int).toNat).length = (numR e bs 4).1 := by rw [List.length_take, Int.toNat_natCast]; omega
      rw [hl, List.append_assoc, List.take_append_drop]
      exact hb
theorem cntR_back {e : Int} {bs : List UInt8} {m : Int} (hm : 0 ≤ m) (h : (cntR e bs m).2.1 = 0) : e = 0 ∧ bs = putB (cntR e bs m).1.toNat 2 ++ (cntR e bs m).2.2 := by
  rw [cntR_eq] at h ⊢
  split at h
  · cases h
  · rename_i h1
    rw [if_neg h1]
    obtain ⟨he, hb, _⟩ := numR_back (m := 2) (by omega) h
    exact ⟨he, hb⟩
theorem oneL_back {e : Int} {bs : List UInt8} (h : (oneL e bs).2.1 = 0) : e = 0 ∧ bs = letB (oneL e bs).1 ++ (oneL e bs).2.2 := by
  unfold oneL at h ⊢
  dsimp only at h ⊢
  generalize hr1 : rowR e bs 16 = r1 at *
  generalize hr2 : numR r1.2.1 r1.2.2 1 = r2 at *
  generalize hr3 : numR r2.2.1 r2.2.2 8 = r3 at *
  generalize hr4 : numR r3.2.1 r3.2.2 8 = r4 at *
  generalize hr5 : rowR r4.2.1 r4.2.2 200 = r5 at *
  have b6 := rowR_back h
  have b5 := rowR_back (e := r4.2.1) (bs := r4.2.2) (m := 200) (by rw [hr5]; exact b6.1)
  rw [hr5] at b5
  have b4 := numR_back (m := 8) (e := r3.2.1) (bs := r3.2.2) (by omega) (by rw [show ((8 : Nat) : Int) = 8 from rfl, hr4]; exact b5.1)
  rw [show ((8 : Nat) : Int) = 8 from rfl, hr4] at b4
  have b3 := numR_back (m := 8) (e := r2.2.1) (bs := r2.2.2) (by omega) (by rw [show ((8 : Nat) : Int) = 8 from rfl, hr3]; exact b4.1)
  rw [show ((8 : Nat) : Int) = 8 from rfl, hr3] at b3
  have b2 := numR_back (m := 1) (e := r1.2.1) (bs := r1.2.2) (by omega) (by rw [show ((1 : Nat) : Int) = 1 from rfl, hr2]; exact b3.1)
  rw [show ((1 : Nat) : Int) = 1 from rfl, hr2] at b2
  have b1 := rowR_back (e := e) (bs := bs) (m := 16) (by rw [hr1]; exact b2.1)
  rw [hr1] at b1
  refine ⟨b1.1, ?_⟩
  unfold letB letB1 letB2 letB3
  dsimp only
  rw [uN_iN b2.2.2, uN_iN b3.2.2, uN_iN b4.2.2]
  simp only [List.append_assoc]
  rw [← b6.2, ← b5.2, ← b4.2.1, ← b3.2.1, ← b2.2.1, ← b1.2]
theorem oneO_back {e : Int} {bs : List UInt8} (h : (oneO e bs).2.1 = 0) : e = 0 ∧ bs = ouB (oneO e bs).1 ++ (oneO e bs).2.2 := by
  unfold oneO at h ⊢
  dsimp only at h ⊢
  generalize hr1 : numR e bs 1 = r1 at *
  generalize hr2 : numR r1.2.1 r1.2.2 8 = r2 at *
  have b3 := numR_back (m := 1) (e := r2.2.1) (bs := r2.2.2) (by omega) h
  rw [show ((1 : Nat) : Int) = 1 from rfl] at b3
  have b2 := numR_back (m := 8) (e := r1.2.1) (bs := r1.2.2) (by omega) (by rw [show ((8 : Nat) : Int) = 8 from rfl, hr2]; exact b3.1)
  rw [show ((8 : Nat) : Int) = 8 from rfl, hr2] at b2
  have b1 := numR_back (m := 1) (e := e) (bs := bs) (by omega) (by rw [show ((1 : Nat) : Int) = 1 from rfl, hr1]; exact b2.1)
  rw [show ((1 : Nat) : Int) = 1 from rfl, hr1] at b1
  refine ⟨b1.1, ?_⟩
  unfold ouB
  dsimp only
  rw [uN_iN b1.2.2, uN_iN b2.2.2, uN_iN b3.2.2]
  simp only [List.append_assoc]
  rw [← b3.2.1, ← b2.2.1, ← b1.2.1]
theorem manyR_back {α : Type} {one : Int → List UInt8 → α × Int × List UInt8} {f : α → List UInt8} (h : ∀ e bs, (one e bs).2.1 = 0 → e = 0 ∧ bs = f (one e bs).1 ++ (one e bs).2.2) {e : Int} {bs : List UInt8} : ∀ j, (manyR one e bs j).2.1 = 0 → e = 0 ∧ bs = flatB f (manyR one e bs j).1 ++ (manyR one e bs j).2.2
  | 0, hj => ⟨hj, rfl⟩
  | j + 1, hj => by
    obtain ⟨h1, h2⟩ := h _ _ hj
    obtain ⟨h3, h4⟩ := manyR_back h j h1
    refine ⟨h3, ?_⟩
    show bs = flatB f ((manyR one e bs j).1 ++ [_]) ++ _
    rw [flatB_snoc, List.append_assoc]
    exact h4.trans (congrArg _ h2)
theorem bytes_parse {bs : List UInt8} (h : (parseL bs).2 = 0) : rightL (parseL bs).1 = true ∧ bytesL (parseL bs).1 = bs := by
  unfold parseL at h ⊢
  split at h
  rotate_left
  · cases h
  rename_i h0
  rw [if_pos h0]
  obtain ⟨he, hr⟩ := h0
  refine ⟨hr, ?_⟩
  unfold readR at he ⊢
  dsimp only at he ⊢
  have hm := (cntO_cnt bs).1
  have he1 : (outsR bs (cntO bs).1.toNat).2.1 = 0 ∧ (outsR bs (cntO bs).1.toNat).2.2 = [] := by
    unfold endR at he
    split at he
    · cases he
    · rename_i hn
      refine ⟨he, ?_⟩
      by_cases hl : (outsR bs (cntO bs).1.toNat).2.2 = []
      · exact hl
      · exact absurd ⟨he, List.length_pos_iff.2 hl⟩ hn
  obtain ⟨h1, h2⟩ := he1
  obtain ⟨h3, h4⟩ := manyR_back (f := ouB) (fun e bs => oneO_back) _ h1
  rw [show (manyR oneO (cntO bs).2.1 (cntO bs).2.2 (cntO bs).1.toNat).2.2 = [] from h2, List.append_nil] at h4
  obtain ⟨h5, h6⟩ := cntR_back (m := 4) (by decide) (e := (lettersR bs (headR bs).1.2.2).2.1) (bs := (lettersR bs (headR bs).1.2.2).2.2) h3
  obtain ⟨h7, h8⟩ := manyR_back (f := letB) (fun e bs => oneL_back) _ h5
  have ho : (outsR bs (cntO bs).1.toNat).1.length = (cntO bs).1.toNat := manyR_len _ _ _ _
  have hl : (lettersR bs (headR bs).1.2.2).1.length = (headR bs).1.2.2 := manyR_len _ _ _ _
  unfold bytesL lgPre
  dsimp only
  rw [ho, hl]
  have hd : bs = putB (uN (headR bs).1.1) 8 ++ (putB (uN (headR bs).1.2.1) 8 ++ (putB (headR bs).1.2.2 2 ++ (headR bs).2.2)) := by
    unfold headR at h7 ⊢
    dsimp only at h7 ⊢
    generalize hr1 : numR 0 bs 8 = r1 at *
    generalize hr2 : numR r1.2.1 r1.2.2 8 = r2 at *
    obtain ⟨c1, c2⟩ := cntR_back (m := 16) (by decide) h7
    have b2 := numR_back (m := 8) (e := r1.2.1) (bs := r1.2.2) (by omega) (by rw [show ((8 : Nat) : Int) = 8 from rfl, hr2]; exact c1)
    rw [show ((8 : Nat) : Int) = 8 from rfl, hr2] at b2
    have b1 := numR_back (m := 8) (e := 0) (bs := bs) (by omega) (by rw [show ((8 : Nat) : Int) = 8 from rfl, hr1]; exact b2.1)
    rw [show ((8 : Nat) : Int) = 8 from rfl, hr1] at b1
    rw [uN_iN b1.2.2, uN_iN b2.2.2, ← c2, ← b2.2.1]
    exact b1.2.1
  simp only [List.append_assoc]
  conv => rhs; rw [hd, h8]
  rw [show (manyR oneL (headR bs).2.1 (headR bs).2.2 (headR bs).1.2.2) = lettersR bs (headR bs).1.2.2 from rfl, h6]
  rw [show cntR (lettersR bs (headR bs).1.2.2).2.1 (lettersR bs (headR bs).1.2.2).2.2 4 = cntO bs from rfl, h4]
  rfl
theorem bytesL_inj {l m : LgX} (hl : rightL l = true) (hm : rightL m = true) (h : bytesL l = bytesL m) : l = m := by
  have h1 := parse_bytes hl
  rw [h, parse_bytes hm] at h1
  exact (congrArg Prod.fst h1).symm
theorem bytesL_ne (l : LgX) : bytesL l ≠ [] := fun h => by
  have := congrArg List.length h
  unfold bytesL at this
  simp only [List.length_append, lgPre_len, List.length_nil] at this
  omega
end Go.Proofs.Ytifdlhafcfbeaaa
namespace Go.Proofs.Ytifdlhafcfbeaaa
open Go.RowKit
set_option maxRecDepth 100000
theorem aXC {C : Ctx} {ops : Array Oper} {fuel : Nat} {listed : Array Bool} {k : List KItem} {l : Env} {F Fs : PH} {H Hs : List Asrt} {d i : Nat} {p : Op} {T : TypeId} {pos : String} {af : Array Edge} {g : Option (Nat × Bool)} (ho : ops[i]? = some ⟨some d, p, T, pos, af, g⟩) (hr : runs ops l ⟨some d, p, T, pos, af, g⟩ = some false) (hN : Nat.blt d C.N = true)
    (h : JA C (Sat Fs Hs) ops fuel (listed.setIfInBounds i true) k ((d, undef) :: l) F H) : JA1 C (Sat Fs Hs) ops fuel listed i k l F H := by
  unfold JA at h
  unfold JA1
  intro hS a w ha hm hs
  have hd : d < C.N := Nat.le_of_ble_eq_true hN
  unfold wpOp
  rw [ho]
  dsimp only
  rw [if_neg (by rw [runs_wanted hr ha]; simp)]
  exact ⟨hS w hs, h hS _ w (ha.put hd undef) hm hs⟩
theorem parseL_no {bs : List UInt8} (h : ¬ (parseL bs).2 = 0) : parseL bs = (nLg, 2) := by
  unfold parseL at h ⊢
  split at h
  · exact absurd rfl h
  · rename_i h0
    rw [if_neg h0]
theorem sameL_refl (l : LgX) : sameL l l = true := decide_eq_true ⟨rfl, rfl, rfl, rfl⟩
theorem readR_lens (bs : List UInt8) : (readR bs).1.2.2.1.length ≤ 16 ∧ (readR bs).1.2.2.2.1.length ≤ 4 ∧ (∀ x ∈ (readR bs).1.2.2.1, LtOk x) ∧ InK .i64 (readR bs).1.2.1 := by
  refine ⟨?_, ?_, manyR_all oneL_ok _ _ _, ?_⟩
  · show (lettersR bs (headR bs).1.2.2).1.length ≤ 16
    rw [show (lettersR bs (headR bs).1.2.2).1.length = (headR bs).1.2.2 from manyR_len _ _ _ _]
    exact headR_cnt bs
  · show (outsR bs (cntO bs).1.toNat).1.length ≤ 4
    rw [show (outsR bs (cntO bs).1.toNat).1.length = (cntO bs).1.toNat from manyR_len _ _ _ _]
    have := cntO_cnt bs
    omega
  · exact iN_inK _
theorem parseL_lens (bs : List UInt8) : (parseL bs).1.2.2.1.length ≤ 16 ∧ (parseL bs).1.2.2.2.1.length ≤ 4 ∧ (∀ x ∈ (parseL bs).1.2.2.1, LtOk x) ∧ InK .i64 (parseL bs).1.2.1 := by
  unfold parseL
  split
  · exact readR_lens bs
  · exact ⟨by decide, by decide, fun x h => absurd h (List.not_mem_nil), by decide⟩
section
variable {P : Program} {l : Env} {F : PH} {H : List Asrt} {d : Option Nat} {T T' U : TypeId} {pos : String} {af : Array Edge} {g : Option (Nat × Bool)} {x y : Operand}
theorem ev_bneqR {a b r : Bool} (hx : opv l x = some (.bool a)) (hy : opv l y = some (.bool b)) (hu : P.underlying T = some .bool) (hr : (!(a == b)) = r) : Ev P ⟨d, .binOp .neq T x y T', U, pos, af, g⟩ l F H (.bool r) := hr ▸ ev_bool_neq hx hy hu
theorem ev_beqlR {a b r : Bool} (hx : opv l x = some (.bool a)) (hy : opv l y = some (.bool b)) (hu : P.underlying T = some .bool) (hr : (a == b) = r) : Ev P ⟨d, .binOp .eql T x y T', U, pos, af, g⟩ l F H (.bool r) := hr ▸ ev_bool_eql hx hy hu
end
def xA : LtX := ([97], 1, 6, 0, [], [], ())
def xB : LtX := ([98], 1, 5, 0, [], [], ())
theorem right0 : rightL nLg = true := by rfl
theorem right2 : rightL (0, 0, [xA, xB], [], ()) = true := by decide
theorem len0 : (bytesL nLg).length = 20 := by
  unfold bytesL
  simp only [List.length_append, lgPre_len, pl2]
  rfl
theorem with1 : withP nLg xB = ((0, 0, [xB], [], ()), 0) := by rfl
theorem with2 : withP (0, 0, [xB], [], ()) xA = ((0, 0, [xA, xB], [], ()), 0) := by rfl
theorem find2 : findP nLt (ltEq [98]) [xA, xB] = (xB, true) := by rfl
set_option maxHeartbeats 16000000 in
theorem fixed11_spec (F : PH) : Spec Try.prog 7 [] F [] fun u F' H' => u = .bool true ∧ H' = [] := by
  refine Spec.of0 Try.func7 rfl fun X w0 => ?_
  repeat (first|refine zJ rfl rfl ?_|refine jr rfl ?_|refine jn ?_|refine zM rfl rfl ?_|(refine zC rfl rfl ?_ rfl ?_;omega)|(refine zD rfl rfl ?_ rfl ?_;omega)|(refine zP rfl ?_ rfl ?_;omega)|refine zG rfl rfl rfl rfl ?_|(refine jdq rfl rfl ?_ ?_ ?_;kernel_rfl;kernel_rfl)|refine zB rfl rfl rfl (by repeat constructor) rfl ?_|refine zH .here rfl rfl rfl rfl ?_|refine zH (.there .here) rfl rfl rfl rfl ?_|refine zH (.there (.there .here)) rfl rfl rfl rfl ?_)
  have sb := lbytes_spec nLg zLg F (LgV.nil F) (by decide) (by decide) (by decide) (fun x h => absurd h (List.not_mem_nil))
  rw [right0, if_pos rfl] at sb
  refine oC (Hc := []) (Hr := X) sb Try.call11 rfl rfl (fun _ s => s) ?_
  rintro u1 F1 _ hF1 ⟨rfl, h1⟩
  have sp := lparse_spec u1 (bytesL nLg) F1 h1 (by rw [len0]; decide)
  rw [parse_bytes right0] at sp
  obtain ⟨a1, c1, rfl, _⟩ := h1.form
  rw [len0] at sp ⊢
  repeat (first|refine zJ rfl rfl ?_|refine jr rfl ?_|refine jn ?_|refine zM rfl rfl ?_|(refine zC rfl rfl ?_ rfl ?_;omega)|(refine zD rfl rfl ?_ rfl ?_;omega)|(refine zP rfl ?_ rfl ?_;omega)|refine zG rfl rfl rfl rfl ?_|(refine jdq rfl rfl ?_ ?_ ?_;kernel_rfl;kernel_rfl)|refine zB rfl rfl rfl (by repeat constructor) rfl ?_|refine zH .here rfl rfl rfl rfl ?_|refine zH (.there .here) rfl rfl rfl rfl ?_|refine zH (.there (.there .here)) rfl rfl rfl rfl ?_)
  refine oC (Hc := []) (Hr := X) sp Try.call8 rfl rfl (fun _ s => s) ?_
  rintro _ F2 _ hF2 ⟨rfl, _, rfl, hv2⟩
  obtain ⟨vl2, vo2, rfl, hL2, hO2⟩ := id hv2
  obtain ⟨al2, cl2, rfl, _⟩ := hL2.form
  obtain ⟨ao2, co2, rfl, _⟩ := hO2.form
  dsimp only at hv2 hL2 hO2 ⊢
  repeat (first|refine zJ rfl rfl ?_|refine jr rfl ?_|refine jn ?_|refine zM rfl rfl ?_|(refine zC rfl rfl ?_ rfl ?_;omega)|(refine zD rfl rfl ?_ rfl ?_;omega)|(refine zP rfl ?_ rfl ?_;omega)|refine zG rfl rfl rfl rfl ?_|(refine jdq rfl rfl ?_ ?_ ?_;kernel_rfl;kernel_rfl)|refine zB rfl rfl rfl (by repeat constructor) rfl ?_|refine zH .here rfl rfl rfl rfl ?_|refine zH (.there .here) rfl rfl rfl rfl ?_|refine zH (.there (.there .here)) rfl rfl rfl rfl ?_)
  refine oE (ev_alloc (cs := zLg) rfl) rfl ?_
  rintro _ _ _ _ ⟨rfl, b2, rfl, rfl⟩
  refine oN (ev_store (b := b2) (off := 0) rfl rfl .agg rfl rfl (lay_all (zs := zLg) rfl) lgC_ones .here) rfl ?_
  rintro _ _ _ _ ⟨rfl, _, rfl⟩
  repeat (first|refine zJ rfl rfl ?_|refine jr rfl ?_|refine jn ?_|refine zM rfl rfl ?_|(refine zC rfl rfl ?_ rfl ?_;omega)|(refine zD rfl rfl ?_ rfl ?_;omega)|(refine zP rfl ?_ rfl ?_;omega)|refine zG rfl rfl rfl rfl ?_|(refine jdq rfl rfl ?_ ?_ ?_;kernel_rfl;kernel_rfl)|refine zB rfl rfl rfl (by repeat constructor) rfl ?_|refine zH .here rfl rfl rfl rfl ?_|refine zH (.there .here) rfl rfl rfl rfl ?_|refine zH (.there (.there .here)) rfl rfl rfl rfl ?_)
  refine oS (ev_load_agg (cs := lgC nLg.1 nLg.2.1 (.slice al2 nLg.2.2.1.length cl2) (.slice ao2 nLg.2.2.2.1.length co2)) rfl rfl (Rdb.ofB (n := 0) .here rfl) rfl) rfl ?_
  have sw := with_spec nLg (lgC nLg.1 nLg.2.1 (.slice al2 nLg.2.2.1.length cl2) (.slice ao2 nLg.2.2.2.1.length co2)) xB F2 hv2 (by decide) (by decide) (by decide)
  rw [with1] at sw
  repeat (first|refine zJ rfl rfl ?_|refine jr rfl ?_|refine jn ?_|refine zM rfl rfl ?_|(refine zC rfl rfl ?_ rfl ?_;omega)|(refine zD rfl rfl ?_ rfl ?_;omega)|(refine zP rfl ?_ rfl ?_;omega)|refine zG rfl rfl rfl rfl ?_|(refine jdq rfl rfl ?_ ?_ ?_;kernel_rfl;kernel_rfl)|refine zB rfl rfl rfl (by repeat constructor) rfl ?_|refine zH .here rfl rfl rfl rfl ?_|refine zH (.there .here) rfl rfl rfl rfl ?_|refine zH (.there (.there .here)) rfl rfl rfl rfl ?_)
  refine oC (Hc := []) (Hr := blk b2 27 (lgC nLg.1 nLg.2.1 (.slice al2 nLg.2.2.1.length cl2) (.slice ao2 nLg.2.2.2.1.length co2)) :: X) sw Try.call13 rfl rfl (fun _ s => s) ?_
  rintro _ F3 _ hF3 ⟨rfl, _, rfl, hv3⟩
  obtain ⟨vl3, vo3, rfl, hL3, hO3⟩ := id hv3
  obtain ⟨al3, cl3, rfl, _⟩ := hL3.form
  obtain ⟨ao3, co3, rfl, _⟩ := hO3.form
  dsimp only at hv3 hL3 hO3 ⊢
  repeat (first|refine zJ rfl rfl ?_|refine jr rfl ?_|refine jn ?_|refine zM rfl rfl ?_|(refine zC rfl rfl ?_ rfl ?_;omega)|(refine zD rfl rfl ?_ rfl ?_;omega)|(refine zP rfl ?_ rfl ?_;omega)|refine zG rfl rfl rfl rfl ?_|(refine jdq rfl rfl ?_ ?_ ?_;kernel_rfl;kernel_rfl)|refine zB rfl rfl rfl (by repeat constructor) rfl ?_|refine zH .here rfl rfl rfl rfl ?_|refine zH (.there .here) rfl rfl rfl rfl ?_|refine zH (.there (.there .here)) rfl rfl rfl rfl ?_)
  refine oE (ev_alloc (cs := zLg) rfl) rfl ?_
  rintro _ _ _ _ ⟨rfl, b4, rfl, rfl⟩
  refine oN (ev_store (b := b4) (off := 0) rfl rfl .agg rfl rfl (lay_all (zs := zLg) rfl) lgC_ones .here) rfl ?_
  rintro _ _ _ _ ⟨rfl, _, rfl⟩
  repeat (first|refine zJ rfl rfl ?_|refine jr rfl ?_|refine jn ?_|refine zM rfl rfl ?_|(refine zC rfl rfl ?_ rfl ?_;omega)|(refine zD rfl rfl ?_ rfl ?_;omega)|(refine zP rfl ?_ rfl ?_;omega)|refine zG rfl rfl rfl rfl ?_|(refine jdq rfl rfl ?_ ?_ ?_;kernel_rfl;kernel_rfl)|refine zB rfl rfl rfl (by repeat constructor) rfl ?_|refine zH .here rfl rfl rfl rfl ?_|refine zH (.there .here) rfl rfl rfl rfl ?_|refine zH (.there (.there .here)) rfl rfl rfl rfl ?_)
  refine oS (ev_load_agg (cs := lgC 0 0 (.slice al3 [xB].length cl3) (.slice ao3 ([] : List OuX).length co3)) rfl rfl (Rdb.ofB (n := 0) .here rfl) rfl) rfl ?_
  have sw2 := with_spec (0, 0, [xB], [], ()) (lgC 0 0 (.slice al3 [xB].length cl3) (.slice ao3 ([] : List OuX).length co3)) xA F3 hv3 (by decide) (by decide) (by decide)
  rw [with2] at sw2
  repeat (first|refine zJ rfl rfl ?_|refine jr rfl ?_|refine jn ?_|refine zM rfl rfl ?_|(refine zC rfl rfl ?_ rfl ?_;omega)|(refine zD rfl rfl ?_ rfl ?_;omega)|(refine zP rfl ?_ rfl ?_;omega)|refine zG rfl rfl rfl rfl ?_|(refine jdq rfl rfl ?_ ?_ ?_;kernel_rfl;kernel_rfl)|refine zB rfl rfl rfl (by repeat constructor) rfl ?_|refine zH .here rfl rfl rfl rfl ?_|refine zH (.there .here) rfl rfl rfl rfl ?_|refine zH (.there (.there .here)) rfl rfl rfl rfl ?_)
  refine oC (Hc := []) (Hr := blk b4 27 (lgC 0 0 (.slice al3 [xB].length cl3) (.slice ao3 ([] : List OuX).length co3)) :: blk b2 27 (lgC nLg.1 nLg.2.1 (.slice al2 nLg.2.2.1.length cl2) (.slice ao2 nLg.2.2.2.1.length co2)) :: X) sw2 Try.call13 rfl rfl (fun _ s => s) ?_
  rintro _ F4 _ hF4 ⟨rfl, _, rfl, hv4⟩
  obtain ⟨vl4, vo4, rfl, hL4, hO4⟩ := id hv4
  obtain ⟨al4, cl4, rfl, _⟩ := hL4.form
  obtain ⟨ao4, co4, rfl, _⟩ := hO4.form
  dsimp only at hv4 hL4 hO4 ⊢
  repeat (first|refine zJ rfl rfl ?_|refine jr rfl ?_|refine jn ?_|refine zM rfl rfl ?_|(refine zC rfl rfl ?_ rfl ?_;omega)|(refine zD rfl rfl ?_ rfl ?_;omega)|(refine zP rfl ?_ rfl ?_;omega)|refine zG rfl rfl rfl rfl ?_|(refine jdq rfl rfl ?_ ?_ ?_;kernel_rfl;kernel_rfl)|refine zB rfl rfl rfl (by repeat constructor) rfl ?_|refine zH .here rfl rfl rfl rfl ?_|refine zH (.there .here) rfl rfl rfl rfl ?_|refine zH (.there (.there .here)) rfl rfl rfl rfl ?_)
  refine oE (ev_alloc (cs := zLg) rfl) rfl ?_
  rintro _ _ _ _ ⟨rfl, b6, rfl, rfl⟩
  refine oN (ev_store (b := b6) (off := 0) rfl rfl .agg rfl rfl (lay_all (zs := zLg) rfl) lgC_ones .here) rfl ?_
  rintro _ _ _ _ ⟨rfl, _, rfl⟩
  repeat (first|refine zJ rfl rfl ?_|refine jr rfl ?_|refine jn ?_|refine zM rfl rfl ?_|(refine zC rfl rfl ?_ rfl ?_;omega)|(refine zD rfl rfl ?_ rfl ?_;omega)|(refine zP rfl ?_ rfl ?_;omega)|refine zG rfl rfl rfl rfl ?_|(refine jdq rfl rfl ?_ ?_ ?_;kernel_rfl;kernel_rfl)|refine zB rfl rfl rfl (by repeat constructor) rfl ?_|refine zH .here rfl rfl rfl rfl ?_|refine zH (.there .here) rfl rfl rfl rfl ?_|refine zH (.there (.there .here)) rfl rfl rfl rfl ?_)
  refine oS (ev_load_agg (cs := lgC 0 0 (.slice al4 [xA, xB].length cl4) (.slice ao4 ([] : List OuX).length co4)) rfl rfl (Rdb.ofB (n := 0) .here rfl) rfl) rfl ?_
  have sf := lt_find_spec (0, 0, [xA, xB], [], ()) (lgC 0 0 (.slice al4 [xA, xB].length cl4) (.slice ao4 ([] : List OuX).length co4)) [98] F4 hv4 (by decide)
  rw [find2] at sf
  generalize hHR : blk b4 27 (lgC 0 0 (.slice al3 [xB].length cl3) (.slice ao3 ([] : List OuX).length co3)) :: blk b2 27 (lgC nLg.1 nLg.2.1 (.slice al2 nLg.2.2.1.length cl2) (.slice ao2 nLg.2.2.2.1.length co2)) :: X = HR
  have hdr : ∀ (F : PH) (w : World), Sat F HR w → Sat F X w := fun F w s => by subst hHR; exact s.drop.drop
  clear hHR
  repeat (first|refine zJ rfl rfl ?_|refine jr rfl ?_|refine jn ?_|refine zM rfl rfl ?_|(refine zC rfl rfl ?_ rfl ?_;omega)|(refine zD rfl rfl ?_ rfl ?_;omega)|(refine zP rfl ?_ rfl ?_;omega)|refine zG rfl rfl rfl rfl ?_|(refine jdq rfl rfl ?_ ?_ ?_;kernel_rfl;kernel_rfl)|refine zB rfl rfl rfl (by repeat constructor) rfl ?_|refine zH .here rfl rfl rfl rfl ?_|refine zH (.there .here) rfl rfl rfl rfl ?_|refine zH (.there (.there .here)) rfl rfl rfl rfl ?_)
  refine oC (Hc := []) (Hr := blk b6 27 (lgC 0 0 (.slice al4 [xA, xB].length cl4) (.slice ao4 ([] : List OuX).length co4)) :: HR) sf Try.call17 rfl rfl (fun _ s => s) ?_
  rintro _ F5 _ hF5 ⟨rfl, rfl⟩
  dsimp only
  repeat (first|refine zJ rfl rfl ?_|refine jr rfl ?_|refine jn ?_|refine zM rfl rfl ?_|(refine zC rfl rfl ?_ rfl ?_;omega)|(refine zD rfl rfl ?_ rfl ?_;omega)|(refine zP rfl ?_ rfl ?_;omega)|refine zG rfl rfl rfl rfl ?_|(refine jdq rfl rfl ?_ ?_ ?_;kernel_rfl;kernel_rfl)|refine zB rfl rfl rfl (by repeat constructor) rfl ?_|refine zH .here rfl rfl rfl rfl ?_|refine zH (.there .here) rfl rfl rfl rfl ?_|refine zH (.there (.there .here)) rfl rfl rfl rfl ?_)
  refine oE (ev_alloc (cs := zLt) rfl) rfl ?_
  rintro _ _ _ _ ⟨rfl, b8, rfl, rfl⟩
  refine oN (ev_store (b := b8) (off := 0) rfl rfl .agg rfl rfl (lay_all (zs := zLt) rfl) (lt_ones xB) .here) rfl ?_
  rintro _ _ _ _ ⟨rfl, _, rfl⟩
  obtain ⟨x4, o4, e4, hc4⟩ := (hL4.mono hF5).at (i := 0) (x := xA) rfl
  subst e4
  unfold lgC
  repeat (first|refine zJ rfl rfl ?_|refine jr rfl ?_|refine jn ?_|refine zM rfl rfl ?_|(refine zC rfl rfl ?_ rfl ?_;omega)|(refine zD rfl rfl ?_ rfl ?_;omega)|(refine zP rfl ?_ rfl ?_;omega)|refine zG rfl rfl rfl rfl ?_|(refine jdq rfl rfl ?_ ?_ ?_;kernel_rfl;kernel_rfl)|refine zB rfl rfl rfl (by repeat constructor) rfl ?_|refine zH .here rfl rfl rfl rfl ?_|refine zH (.there .here) rfl rfl rfl rfl ?_|refine zH (.there (.there .here)) rfl rfl rfl rfl ?_)
  refine oS (ev_indexAddr (i := 0) rfl rfl rfl (by decide)) rfl ?_
  refine oS (ev_fieldAddr rfl rfl) rfl ?_
  refine oS (ev_load (v := .string (strOf [97])) rfl rfl (Rdb.ofF (Cells.one hc4 0 rfl))) rfl ?_
  refine oS (ev_seql (bs := [97]) (cs := [97]) (r := true) rfl rfl (decide_eq_true rfl)) rfl ?_
  repeat (first|refine zJ rfl rfl ?_|refine jr rfl ?_|refine jn ?_|refine zM rfl rfl ?_|(refine zC rfl rfl ?_ rfl ?_;omega)|(refine zD rfl rfl ?_ rfl ?_;omega)|(refine zP rfl ?_ rfl ?_;omega)|refine zG rfl rfl rfl rfl ?_|(refine jdq rfl rfl ?_ ?_ ?_;kernel_rfl;kernel_rfl)|refine zB rfl rfl rfl (by repeat constructor) rfl ?_|refine zH .here rfl rfl rfl rfl ?_|refine zH (.there .here) rfl rfl rfl rfl ?_|refine zH (.there (.there .here)) rfl rfl rfl rfl ?_)
  refine oS (ev_load_agg (cs := lgC 0 0 (.slice (some ⟨x4, o4, none⟩) [xA, xB].length cl4) (.slice ao4 ([] : List OuX).length co4)) rfl rfl (Rdb.ofB (n := 0) (.there .here) rfl) rfl) rfl ?_
  have sc := lcheck_spec (0, 0, [xA, xB], [], ()) (lgC 0 0 (.slice (some ⟨x4, o4, none⟩) [xA, xB].length cl4) (.slice ao4 ([] : List OuX).length co4)) F5 (hv4.mono hF5) (by decide) (by decide) (by decide) (by
    intro x hx
    rcases List.mem_cons.1 hx with rfl | hx
    · exact ⟨by decide, by decide, by decide⟩
    · obtain rfl := List.mem_singleton.1 hx
      exact ⟨by decide, by decide, by decide⟩)
  rw [right2, if_pos rfl] at sc
  refine oP (sc) Try.call23 rfl rfl ?_
  repeat (first|refine zJ rfl rfl ?_|refine jr rfl ?_|refine jn ?_|refine zM rfl rfl ?_|(refine zC rfl rfl ?_ rfl ?_;omega)|(refine zD rfl rfl ?_ rfl ?_;omega)|(refine zP rfl ?_ rfl ?_;omega)|refine zG rfl rfl rfl rfl ?_|(refine jdq rfl rfl ?_ ?_ ?_;kernel_rfl;kernel_rfl)|refine zB rfl rfl rfl (by repeat constructor) rfl ?_|refine zH .here rfl rfl rfl rfl ?_|refine zH (.there .here) rfl rfl rfl rfl ?_|refine zH (.there (.there .here)) rfl rfl rfl rfl ?_)
  have s1 := isName_spec [97, 45, 49] (by decide) F5
  rw [show nameB [97, 45, 49] = true from by decide] at s1
  have s2 := isName_spec [65] (by decide) F5
  rw [show nameB [65] = false from by decide] at s2
  refine oP (s1) Try.call21 rfl rfl ?_
  repeat (first|refine zJ rfl rfl ?_|refine jr rfl ?_|refine jn ?_|refine zM rfl rfl ?_|(refine zC rfl rfl ?_ rfl ?_;omega)|(refine zD rfl rfl ?_ rfl ?_;omega)|(refine zP rfl ?_ rfl ?_;omega)|refine zG rfl rfl rfl rfl ?_|(refine jdq rfl rfl ?_ ?_ ?_;kernel_rfl;kernel_rfl)|refine zB rfl rfl rfl (by repeat constructor) rfl ?_|refine zH .here rfl rfl rfl rfl ?_|refine zH (.there .here) rfl rfl rfl rfl ?_|refine zH (.there (.there .here)) rfl rfl rfl rfl ?_)
  refine oP (s2) Try.call21 rfl rfl ?_
  repeat (first|refine zJ rfl rfl ?_|refine jr rfl ?_|refine jn ?_|refine zM rfl rfl ?_|(refine zC rfl rfl ?_ rfl ?_;omega)|(refine zD rfl rfl ?_ rfl ?_;omega)|(refine zP rfl ?_ rfl ?_;omega)|refine zG rfl rfl rfl rfl ?_|(refine jdq rfl rfl ?_ ?_ ?_;kernel_rfl;kernel_rfl)|refine zB rfl rfl rfl (by repeat constructor) rfl ?_|refine zH .here rfl rfl rfl rfl ?_|refine zH (.there .here) rfl rfl rfl rfl ?_|refine zH (.there (.there .here)) rfl rfl rfl rfl ?_)
  exact J_retv rfl (.tmp rfl .nil) [] (fun w s => hdr _ w s.drop.drop) (hF1.trans (hF2.trans (hF3.trans (hF4.trans hF5)))) ⟨rfl, rfl⟩
end Go.Proofs.Ytifdlhafcfbeaaa
