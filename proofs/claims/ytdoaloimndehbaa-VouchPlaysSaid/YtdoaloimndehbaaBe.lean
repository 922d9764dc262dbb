/-
  What a vouching adds, as plain data; the state opened at a pair, and closed. Conditions are typed with each.
-/
import Derived.Test.YtdoaloimndehbaaBd
namespace Go.Proofs.Ytdoaloimndehbaa
open Go.RowKit
set_option maxRecDepth 100000
def rowOf : List VE → Pk → List Vo
  | [], _ => []
  | e :: r, p => if p = e.1 then e.2.2 else rowOf r p
def hasE (L : List VE) (p : Pk) : Bool := L.any fun e => decide (p = e.1)
def valOf (L : List VE) (p : Pk) : Value := (getK (L.map entK) p).getD (.slice none 0 0)
def restV : List VE → Pk → List VE
  | [], _ => []
  | e :: r, p => if p = e.1 then r else e :: restV r p
def setE : List VE → Pk → Value → List Vo → List VE
  | [], p, u, l => [(p, u, l)]
  | e :: r, p, u, l => if p = e.1 then (p, u, l) :: r else e :: setE r p u l
theorem valOf_nil (p : Pk) : valOf [] p = .slice none 0 0 := rfl
theorem valOf_cons (e : VE) (r : List VE) (p : Pk) : valOf (e :: r) p = if p = e.1 then e.2.1 else valOf r p := by
  unfold valOf
  rw [List.map_cons]
  show (getK ((e.1, e.2.1) :: r.map entK) p).getD _ = _
  rw [getK_cons]
  by_cases h : p = e.1
  · rw [if_pos h, if_pos h]; rfl
  · rw [if_neg h, if_neg h]
theorem setE_map : ∀ (L : List VE) (p : Pk) (u : Value) (l : List Vo), (setE L p u l).map entK = setK (L.map entK) p u
  | [], _, _, _ => rfl
  | e :: r, p, u, l => by
    unfold setE
    show _ = setK ((e.1, e.2.1) :: r.map entK) p u
    unfold setK
    by_cases h : p = e.1
    · rw [if_pos h, if_pos h]
      show (p, u) :: r.map entK = (e.1, u) :: r.map entK
      rw [h]
    · rw [if_neg h, if_neg h, List.map_cons, setE_map r p u l]
theorem setE_row : ∀ (L : List VE) (p : Pk) (u : Value) (l : List Vo) (q : Pk), rowOf (setE L p u l) q = if q = p then l else rowOf L q
  | [], p, u, l, q => rfl
  | e :: r, p, u, l, q => by
    unfold setE
    by_cases h : p = e.1
    · rw [if_pos h]
      unfold rowOf
      by_cases hq : q = p
      · rw [if_pos hq, if_pos hq]
      · rw [if_neg hq, if_neg hq, if_neg (by rw [← h]; exact hq)]
    · rw [if_neg h]
      unfold rowOf
      by_cases hq : q = e.1
      · rw [if_pos hq, if_neg (fun e' => h (e'.symm.trans hq)), if_pos hq]
      · rw [if_neg hq, if_neg hq, setE_row r p u l q]
theorem row_none : ∀ {L : List VE} {p : Pk}, hasE L p = false → rowOf L p = [] ∧ restV L p = L ∧ valOf L p = .slice none 0 0
  | [], p, _ => ⟨rfl, rfl, rfl⟩
  | e :: r, p, h => by
    unfold hasE at h
    rw [List.any_cons, Bool.or_eq_false_iff] at h
    have hp := of_decide_eq_false h.1
    obtain ⟨a, b, c⟩ := row_none (L := r) (p := p) h.2
    rw [valOf_cons]
    unfold rowOf restV
    rw [if_neg hp, if_neg hp, if_neg hp, a, b, c]
    exact ⟨rfl, rfl, rfl⟩
theorem perm_open : ∀ {L : List VE} {p : Pk}, hasE L p = true → (L.map ownV).Perm (own (valOf L p) 72 35 (rowOf L p).length (vCs (rowOf L p)) :: (restV L p).map ownV)
  | [], p, h => by cases h
  | e :: r, p, h => by
    rw [valOf_cons]
    unfold rowOf restV
    by_cases hp : p = e.1
    · rw [if_pos hp, if_pos hp, if_pos hp]
      exact .refl _
    · rw [if_neg hp, if_neg hp, if_neg hp]
      have h' : hasE r p = true := by
        unfold hasE at h ⊢
        rwa [List.any_cons, decide_eq_false hp, Bool.false_or] at h
      rw [List.map_cons, List.map_cons]
      exact ((perm_open h').cons _).trans (.swap _ _ _)
theorem perm_set : ∀ (L : List VE) (p : Pk) (u : Value) (l : List Vo), ((setE L p u l).map ownV).Perm (own u 72 35 l.length (vCs l) :: (restV L p).map ownV)
  | [], p, u, l => .refl _
  | e :: r, p, u, l => by
    unfold setE restV
    by_cases hp : p = e.1
    · rw [if_pos hp, if_pos hp]
      exact .refl _
    · rw [if_neg hp, if_neg hp, List.map_cons, List.map_cons]
      exact ((perm_set r p u l).cons _).trans (.swap _ _ _)
/-- The state, opened at a pair. -/
abbrev VSo (b : Nat) (n : Int) (bm : Nat) (M : List (Pk × Value)) (v : Value) (l : List Vo) (R : List VE) : List Asrt := own v 72 35 l.length (vCs l) :: vblk b n bm :: mp keyP bm M :: R.map ownV
theorem vs_open {b bm : Nat} {n : Int} {L : List VE} {F : PH} {X : List Asrt} {w : World} (p : Pk) (s : Sat F (VS b n bm L ++ X) w) : Sat F (VSo b n bm (L.map entK) (valOf L p) (rowOf L p) (restV L p) ++ X) w := by
  cases h : hasE L p with
  | false =>
    obtain ⟨a, b', c⟩ := row_none h
    rw [a, b', c]
    exact s.nilOwn _ _
  | true =>
    refine s.perm ?_
    unfold VS VSo
    have := perm_open h
    simp only [List.cons_append]
    exact (((this.append_right X).cons _).cons _).trans ((((List.Perm.swap _ _ _).cons _)).trans (.swap _ _ _))
theorem vs_back {b bm : Nat} {n : Int} {L : List VE} {F : PH} {X : List Asrt} {w : World} (p : Pk) (s : Sat F (VSo b n bm (L.map entK) (valOf L p) (rowOf L p) (restV L p) ++ X) w) : Sat F (VS b n bm L ++ X) w := by
  cases h : hasE L p with
  | false =>
    obtain ⟨a, b', c⟩ := row_none h
    rw [a, b', c] at s
    exact s.drop
  | true =>
    refine s.perm ?_
    unfold VS VSo
    have := perm_open h
    simp only [List.cons_append]
    exact ((((this.append_right X).cons _).cons _).trans ((((List.Perm.swap _ _ _).cons _)).trans (.swap _ _ _))).symm
theorem vs_close {b bm : Nat} {n : Int} {L : List VE} {F : PH} {X : List Asrt} {w : World} (p : Pk) (u : Value) (l : List Vo) (s : Sat F (VSo b n bm (setK (L.map entK) p u) u l (restV L p) ++ X) w) : Sat F (VS b n bm (setE L p u l) ++ X) w := by
  refine s.perm ?_
  unfold VS VSo vmp
  rw [setE_map]
  have := perm_set L p u l
  simp only [List.cons_append]
  exact ((((this.append_right X).cons _).cons _).trans ((((List.Perm.swap _ _ _).cons _)).trans (.swap _ _ _))).symm
theorem set_val {L : List VE} {p : Pk} (h : hasE L p = true) : setK (L.map entK) p (valOf L p) = L.map entK := by
  induction L with
  | nil => cases h
  | cons e r ih =>
    rw [valOf_cons]
    show setK ((e.1, e.2.1) :: r.map entK) p _ = (e.1, e.2.1) :: r.map entK
    unfold setK
    by_cases hp : p = e.1
    · rw [if_pos hp, if_pos hp]
    · rw [if_neg hp, if_neg hp]
      have h' : hasE r p = true := by
        unfold hasE at h ⊢
        rwa [List.any_cons, decide_eq_false hp, Bool.false_or] at h
      rw [ih h']
/-! what a vouching adds -/
/-- A row with a vouching more, or None. -/
def addR (l : List Vo) (x : Vo) : Option (List Vo) := match l[lbP l x.s]? with
  | some y => if y.s = x.s then (if y.d ≠ x.d ∨ y.m ||| x.m = y.m then none else some (l.set (lbP l x.s) ⟨y.c, y.s, y.d, y.m ||| x.m⟩)) else
      if l.length = 4 ∧ lbP l x.s = 0 then none else some ((l.take (lbP l x.s) ++ x :: l.drop (lbP l x.s)).drop (if l.length = 4 then 1 else 0))
  | none => if l.length = 4 ∧ lbP l x.s = 0 then none else some ((l.take (lbP l x.s) ++ x :: l.drop (lbP l x.s)).drop (if l.length = 4 then 1 else 0))
/-- Who and whose may vouch. -/
def inB (n who c : Int) : Bool := decide (0 ≤ who ∧ who < n ∧ n ≤ c ∧ c < n + 4)
abbrev VM := Pk → List Vo
def setM (M : VM) (p : Pk) (l : List Vo) : VM := fun q => if q = p then l else M q
def addM (n : Int) (M : VM) (who : Int) (x : Vo) : Bool × VM := if inB n who x.c then (match addR (M (who, x.c)) x with
  | some l => (true, setM M (who, x.c) l)
  | none => (false, M)) else (false, M)
structure VOk (n : Int) (M : VM) : Prop where
  rise : ∀ q, Rise (M q)
  len : ∀ q, (M q).length ≤ 4
end Go.Proofs.Ytdoaloimndehbaa
