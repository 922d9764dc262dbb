/-
  Vouchings as plain data; pairs as keys; the state of the program's vouchings. Conditions are typed with each.
-/
import Derived.Test.YtdoaloimndehbaaTa
import Derived.Test.YtdoaloimndehbaaLg
import Derived.Test.YtdoaloimndehbaaLw
import Derived.Test.YtdoaloimndehbaaLk
import Derived.Test.YtdoaloimndehbaaKy
namespace Go.Proofs.Ytdoaloimndehbaa
open Go.RowKit
set_option maxRecDepth 100000
/-- A vouching: client, stamp, digest, mask. -/
structure Vo where
  c : Int
  s : Int
  d : Dg
  m : W
theorem Vo.eq_iff (a b : Vo) : a = b ↔ a.c = b.c ∧ a.s = b.s ∧ a.d = b.d ∧ a.m = b.m := by
  cases a; cases b; simp
instance voDec : DecidableEq Vo := fun a b => decidable_of_iff _ (Vo.eq_iff a b).symm
abbrev Vo.cs (x : Vo) : List Value := .int .i64 x.c :: .int .i64 x.s :: (u8s x.d.1 ++ [w32 x.m])
abbrev oCs1 (o : Int × Vo) : List Value := .int .i64 o.1 :: .int .i64 o.2.c :: .int .i64 o.2.s :: (u8s o.2.d.1 ++ [w32 o.2.m])
theorem Vo.len (x : Vo) : x.cs.length = 35 := by simp [Vo.cs, dig_len]
theorem oCs1_len (o : Int × Vo) : (oCs1 o).length = 36 := by simp [oCs1, dig_len]
theorem w32_one (a : W) : (w32 a).oneCell' = true := rfl
theorem Vo.ones (x : Vo) : Ones x.cs := ones_cons rfl (ones_cons rfl fun v hv => by
  rcases List.mem_append.1 hv with h | h
  · exact dig_ones x.d v h
  · obtain rfl := List.mem_singleton.1 h; rfl)
theorem oCs1_ones (o : Int × Vo) : Ones (oCs1 o) := ones_cons rfl o.2.ones
def vCs (xs : List Vo) : List Value := (xs.map Vo.cs).flatten
def oCs (xs : List (Int × Vo)) : List Value := (xs.map oCs1).flatten
theorem vCs_len (xs : List Vo) : (vCs xs).length = xs.length * 35 := by
  unfold vCs
  rw [flat_len (n := 35) fun c hc => by obtain ⟨x, _, rfl⟩ := List.mem_map.1 hc; exact x.len, List.length_map]
theorem oCs_len (xs : List (Int × Vo)) : (oCs xs).length = xs.length * 36 := by
  unfold oCs
  rw [flat_len (n := 36) fun c hc => by obtain ⟨x, _, rfl⟩ := List.mem_map.1 hc; exact oCs1_len x, List.length_map]
theorem vCs_app (xs ys : List Vo) : vCs (xs ++ ys) = vCs xs ++ vCs ys := by simp [vCs]
theorem oCs_app (xs ys : List (Int × Vo)) : oCs (xs ++ ys) = oCs xs ++ oCs ys := by simp [oCs]
theorem vCs_cons (x : Vo) (ys : List Vo) : vCs (x :: ys) = x.cs ++ vCs ys := by simp [vCs]
theorem vCs_ones (xs : List Vo) : Ones (vCs xs) := fun v hv => by
  obtain ⟨c, hc, hv⟩ := List.mem_flatten.1 hv
  obtain ⟨x, _, rfl⟩ := List.mem_map.1 hc
  exact x.ones v hv
theorem oCs_ones (xs : List (Int × Vo)) : Ones (oCs xs) := fun v hv => by
  obtain ⟨c, hc, hv⟩ := List.mem_flatten.1 hv
  obtain ⟨x, _, rfl⟩ := List.mem_map.1 hc
  exact oCs1_ones x v hv
theorem vCs_take (xs : List Vo) (i : Nat) : (vCs xs).take (i * 35) = vCs (xs.take i) := by
  unfold vCs
  rw [flat_take i fun c hc => by obtain ⟨x, _, rfl⟩ := List.mem_map.1 hc; exact x.len, List.map_take]
theorem vCs_drop (xs : List Vo) (i : Nat) : (vCs xs).drop (i * 35) = vCs (xs.drop i) := by
  unfold vCs
  rw [flat_drop i fun c hc => by obtain ⟨x, _, rfl⟩ := List.mem_map.1 hc; exact x.len, List.map_drop]
theorem oCs_take (xs : List (Int × Vo)) (i : Nat) : (oCs xs).take (i * 36) = oCs (xs.take i) := by
  unfold oCs
  rw [flat_take i fun c hc => by obtain ⟨x, _, rfl⟩ := List.mem_map.1 hc; exact oCs1_len x, List.map_take]
theorem oCs_drop (xs : List (Int × Vo)) (i : Nat) : (oCs xs).drop (i * 36) = oCs (xs.drop i) := by
  unfold oCs
  rw [flat_drop i fun c hc => by obtain ⟨x, _, rfl⟩ := List.mem_map.1 hc; exact oCs1_len x, List.map_drop]
/-- Rows of vouchings, and of such with who says them. -/
def VR (F : PH) (v : Value) (xs : List Vo) : Prop := SliceV F 35 v xs.length (vCs xs)
def OR (F : PH) (v : Value) (xs : List (Int × Vo)) : Prop := SliceV F 36 v xs.length (oCs xs)
theorem VR.mono {F G : PH} {v : Value} {xs : List Vo} (h : VR F v xs) (hl : F.le G) : VR G v xs := SliceV.mono h hl
theorem OR.mono {F G : PH} {v : Value} {xs : List (Int × Vo)} (h : OR F v xs) (hl : F.le G) : OR G v xs := SliceV.mono h hl
theorem VR.form {F : PH} {v : Value} {xs : List Vo} (h : VR F v xs) : ∃ a c, v = .slice a xs.length c ∧ xs.length ≤ c := let ⟨_, a, c, e, hn, _⟩ := h; ⟨a, c, e, hn⟩
theorem OR.form {F : PH} {v : Value} {xs : List (Int × Vo)} (h : OR F v xs) : ∃ a c, v = .slice a xs.length c ∧ xs.length ≤ c := let ⟨_, a, c, e, hn, _⟩ := h; ⟨a, c, e, hn⟩
theorem VR.nil (F : PH) : VR F (.slice none 0 0) [] := SliceV.nil F 35
theorem OR.nil (F : PH) : OR F (.slice none 0 0) [] := SliceV.nil F 36
theorem VR.at {F : PH} {a : Option Addr} {n c i : Nat} {xs : List Vo} {x : Vo} (h : VR F (.slice a n c) xs) (hi : xs[i]? = some x) : ∃ b off, a = some ⟨b, off, none⟩ ∧ Cells F b (off + i * 35) x.cs ∧ i < n := by
  have hn : n = xs.length := by
    obtain ⟨_, a', c', e, _⟩ := h
    injection e
  subst hn
  have hlt := (List.getElem?_eq_some_iff.1 hi).1
  obtain ⟨b, off, ha, hc⟩ := SliceV.row (css := xs.map Vo.cs) (r := x.cs) (i := i) h (fun c hc => by obtain ⟨x, _, rfl⟩ := List.mem_map.1 hc; exact x.len) (by rw [List.getElem?_map, hi]; rfl) hlt
  exact ⟨b, off, ha, hc, hlt⟩
theorem OR.at {F : PH} {a : Option Addr} {n c i : Nat} {xs : List (Int × Vo)} {x : Int × Vo} (h : OR F (.slice a n c) xs) (hi : xs[i]? = some x) : ∃ b off, a = some ⟨b, off, none⟩ ∧ Cells F b (off + i * 36) (oCs1 x) ∧ i < n := by
  have hn : n = xs.length := by
    obtain ⟨_, a', c', e, _⟩ := h
    injection e
  subst hn
  have hlt := (List.getElem?_eq_some_iff.1 hi).1
  obtain ⟨b, off, ha, hc⟩ := SliceV.row (css := xs.map oCs1) (r := oCs1 x) (i := i) h (fun c hc => by obtain ⟨x, _, rfl⟩ := List.mem_map.1 hc; exact oCs1_len x) (by rw [List.getElem?_map, hi]; rfl) hlt
  exact ⟨b, off, ha, hc, hlt⟩
theorem VR.cut {F : PH} {n lo hi m c : Nat} {a : Option Addr} {xs : List Vo} (h : VR F (.slice a n c) xs) (h1 : lo ≤ hi) (h2 : hi ≤ xs.length) (h3 : hi ≤ m) : VR F (cutV a 35 c lo hi m) ((xs.drop lo).take (hi - lo)) := by
  have hn : n = xs.length := by
    obtain ⟨_, a', c', e, _⟩ := h
    injection e
  subst hn
  have := SliceV.cut h h1 h2 h3
  rw [vCs_drop, vCs_take] at this
  unfold VR
  rwa [List.length_take, List.length_drop, Nat.min_eq_left (by omega)]
theorem OR.cut {F : PH} {n lo hi m c : Nat} {a : Option Addr} {xs : List (Int × Vo)} (h : OR F (.slice a n c) xs) (h1 : lo ≤ hi) (h2 : hi ≤ xs.length) (h3 : hi ≤ m) : OR F (cutV a 36 c lo hi m) ((xs.drop lo).take (hi - lo)) := by
  have hn : n = xs.length := by
    obtain ⟨_, a', c', e, _⟩ := h
    injection e
  subst hn
  have := SliceV.cut h h1 h2 h3
  rw [oCs_drop, oCs_take] at this
  unfold OR
  rwa [List.length_take, List.length_drop, Nat.min_eq_left (by omega)]
/-! loads of digests and masks behind plain fields -/
theorem dg_at2 (a b : Value) (d : Dg) (post : List Value) : ((a :: b :: (u8s d.1 ++ post)).drop 2).take (u8s d.1).length = u8s d.1 := List.take_left
theorem dg_at3 (a b c : Value) (d : Dg) (post : List Value) : ((a :: b :: c :: (u8s d.1 ++ post)).drop 3).take (u8s d.1).length = u8s d.1 := List.take_left
theorem mk_at2 (a b : Value) (d : Dg) (m : Value) : ((a :: b :: (u8s d.1 ++ [m])).drop 34).take [m].length = [m] := by
  have h := dig_len d
  have : (a :: b :: (u8s d.1 ++ [m])).drop 34 = (u8s d.1 ++ [m]).drop 32 := rfl
  rw [this]
  generalize u8s d.1 = L at h ⊢
  rw [← h, List.drop_left]
  rfl
theorem mk_at3 (a b c : Value) (d : Dg) (m : Value) : ((a :: b :: c :: (u8s d.1 ++ [m])).drop 35).take [m].length = [m] := mk_at2 a b d m
theorem vo_at1 (o : Int × Vo) : ((oCs1 o).drop 1).take o.2.cs.length = o.2.cs := by
  rw [o.2.len]
  exact List.take_of_length_le (by rw [List.length_drop, oCs1_len]; decide)
theorem cells_at {F : PH} {b off : Nat} {r cs : List Value} (h : Cells F b off r) (i : Nat) (e : (r.drop i).take cs.length = cs) : Cells F b (off + i) cs := fun j u hj => by
  have hlt := (List.getElem?_eq_some_iff.1 hj).1
  rw [← e, List.getElem?_take, if_pos hlt, List.getElem?_drop] at hj
  have := h (i + j) u hj
  rwa [← Nat.add_assoc] at this
/-- Vouchings compared. -/
theorem vo_eqC (x y : Vo) : EqC Try.prog 9999 0 x.cs y.cs (Try.prog.fieldsOf 72).toList (decide (x = y)) := by
  have h : EqC Try.prog 9999 0 x.cs y.cs (Try.prog.fieldsOf 72).toList (decide (x.c = y.c) && (decide (x.s = y.s) && (decide (x.d.1 = y.d.1) && (decide ((x.m.toNat : Int) = (y.m.toNat : Int)) && true)))) :=
    .int (by decide) rfl rfl (.int (by decide) rfl rfl (.arr (by decide) rfl rfl rfl rfl x.d.2 y.d.2 (.int (by decide) rfl rfl .nil)))
  have e : decide (x = y) = (decide (x.c = y.c) && (decide (x.s = y.s) && (decide (x.d.1 = y.d.1) && (decide ((x.m.toNat : Int) = (y.m.toNat : Int)) && true)))) := by
    rw [Bool.eq_iff_iff]
    simp only [decide_eq_true_eq, Bool.and_eq_true, Bool.and_true]
    rw [Vo.eq_iff, Int.ofNat_inj, BitVec.toNat_inj, Subtype.ext_iff]
  rw [e]
  exact h
theorem ev_vo_neq {l : Env} {F : PH} {H : List Asrt} {d : Option Nat} {T' U : TypeId} {pos : String} {af : Array Edge} {g : Option (Nat × Bool)} {x y : Operand} {e e' : Vo} (hx : opv l x = some (.agg e.cs.toArray)) (hy : opv l y = some (.agg e'.cs.toArray)) : Ev Try.prog ⟨d, .binOp .neq 72 x y T', U, pos, af, g⟩ l F H (.bool (!decide (e = e'))) :=
  ev_st_neq hx hy (by kernel_rfl) (by kernel_rfl) (by kernel_rfl) (vo_eqC e e')
/-! pairs as keys -/
abbrev Pk := Int × Int
abbrev pkV (p : Pk) : Value := .agg #[.int .i64 p.1, .int .i64 p.2]
theorem pk_eqC (p q : Pk) : EqC Try.prog 9999 0 [.int .i64 p.1, .int .i64 p.2] [.int .i64 q.1, .int .i64 q.2] (Try.prog.fieldsOf 129).toList (decide (p.1 = q.1) && (decide (p.2 = q.2) && true)) :=
  .int (by decide) rfl rfl (.int (by decide) rfl rfl .nil)
def keyP : KeyT Try.prog 129 Pk where
  val := pkV
  chk := fun b p w => checkKey_two (f1 := (Try.prog.fieldsOf 129)[0]!) (f2 := (Try.prog.fieldsOf 129)[1]!) (by kernel_rfl) (by kernel_rfl) (by kernel_rfl) (by kernel_rfl) (by kernel_rfl) b _ _ 9998 w
  find := find_wide pkV rfl fun p q w => by
    have h := eqC_struct (d := 9997) (by kernel_rfl) (by kernel_rfl) (pk_eqC p q) w
    have e : (decide (p.1 = q.1) && (decide (p.2 = q.2) && true)) = decide (p = q) := by
      rw [Bool.eq_iff_iff]; simp [Prod.ext_iff]
    rw [e] at h
    exact h
  same := fun p => by simp [Instr.sameBits]
end Go.Proofs.Ytdoaloimndehbaa
