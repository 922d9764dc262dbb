/-
  Data that lie in cells, by class: what is read of them, rows of them, rows of the call's own; one more at a row's end. Plain theorems over any program; no condition.
  Digests by a book, the program's and the document's: numbers, places. Conditions are typed with each.
  A function's value called in an open order. Plain theorems over any program; no condition.
  Names, and whether a core may be, the program's and the document's. Conditions are typed with each.
  The book: what is digested and tagged, each text by its place. No condition: numbers go round as the program's do.
  Who said a message: Text, All, Sign, Check, by the book. Conditions are typed with each.
-/
import Derived.Test.YtjjjckmpkldgnaaGreatDoorIb
import Derived.Test.YtjjjckmpkldgnaaGreatDoorOa
import Derived.Test.YtjjjckmpkldgnaaGreatDoorUf
import Derived.Test.YtjjjckmpkldgnaaGreatDoorOd
import Derived.Test.YtjjjckmpkldgnaaGreatDoorKp
import Derived.Test.YtjjjckmpkldgnaaGreatDoorKja
import Derived.Test.YtjjjckmpkldgnaaGreatDoorLc
namespace Go.Proofs.YtjjjckmpkldgnaaGreatDoor
open Go.RowKit
set_option maxRecDepth 100000
/-- How a datum lies in cells, of a fixed number; more that stays changes nothing. -/
class Rp (α : Type) where
  sz : Nat
  rep : PH → α → List Value → Prop
  len : ∀ {F x cs}, rep F x cs → cs.length = sz
  ones : ∀ {F x cs}, rep F x cs → Ones cs
  mono : ∀ {F G x cs}, F.le G → rep F x cs → rep G x cs
section
variable {α : Type} [r : Rp α]
theorem All2.rmono {F G : PH} (h : F.le G) : ∀ {xs : List α} {css : List (List Value)}, All2 (Rp.rep F) xs css → All2 (Rp.rep G) xs css
  | _, _, .nil => .nil
  | _, _, .cons a t => .cons (r.mono h a) (All2.rmono h t)
theorem All2.rlen {F : PH} : ∀ {xs : List α} {css : List (List Value)}, All2 (Rp.rep F) xs css → xs.length = css.length ∧ ∀ c ∈ css, c.length = r.sz
  | _, _, .nil => ⟨rfl, fun _ h => by cases h⟩
  | _, _, .cons a t => ⟨by simp [(All2.rlen t).1], fun c h => by
      rcases List.mem_cons.1 h with rfl | h
      · exact r.len a
      · exact (All2.rlen t).2 c h⟩
theorem All2.snocR {F : PH} {x : α} {c : List Value} (hx : r.rep F x c) : ∀ {xs : List α} {css : List (List Value)}, All2 (Rp.rep F) xs css → All2 (Rp.rep F) (xs ++ [x]) (css ++ [c])
  | _, _, .nil => .cons hx .nil
  | _, _, .cons a t => .cons a (All2.snocR hx t)
theorem All2.atR {F : PH} {x : α} {xs : List α} {css : List (List Value)} (h : All2 (Rp.rep F) xs css) : ∀ {i : Nat}, xs[i]? = some x → ∃ c, css[i]? = some c ∧ r.rep F x c := by
  induction h with
  | nil => intro i e; simp at e
  | cons a _ ih =>
    intro i e
    cases i with
    | zero => cases e; exact ⟨_, rfl, a⟩
    | succ i => exact ih e
/-- A slice that comes in, or was kept. -/
def Row (F : PH) (v : Value) (xs : List α) : Prop := ∃ css, SliceV F r.sz v xs.length css.flatten ∧ All2 (Rp.rep F) xs css
theorem Row.mono {F G : PH} {v : Value} {xs : List α} (h : Row F v xs) (l : F.le G) : Row G v xs := let ⟨css, a, b⟩ := h; ⟨css, a.mono l, b.rmono l⟩
theorem Row.nil (F : PH) : Row (α := α) F (.slice none 0 0) [] := ⟨[], SliceV.nil F _, .nil⟩
theorem Row.val {F : PH} {v : Value} {xs : List α} (h : Row F v xs) : ∃ a c, v = .slice a xs.length c ∧ xs.length ≤ c := by
  obtain ⟨_, ⟨_, a, c, e, hc, _⟩, _⟩ := h
  exact ⟨a, c, e, hc⟩
/-- An element, where it lies. -/
theorem Row.at {F : PH} {a : Option Addr} {n c i : Nat} {xs : List α} {x : α} (h : Row F (.slice a n c) xs) (hi : xs[i]? = some x) : ∃ b off cs, a = some ⟨b, off, none⟩ ∧ Cells F b (off + i * r.sz) cs ∧ r.rep F x cs ∧ i < n := by
  obtain ⟨css, ⟨hl, a', c', e, hc, hk⟩, hr⟩ := h
  cases e
  obtain ⟨cs, hcs, hx⟩ := hr.atR hi
  obtain ⟨h1, h2⟩ := hr.rlen
  have hlt : i < xs.length := (List.getElem?_eq_some_iff.1 hi).1
  obtain ⟨b, off, e, hcells⟩ := hk (by omega)
  refine ⟨b, off, cs, e, ?_, hx, hlt⟩
  have := slice_at (i := i) hl hcells hlt
  rwa [flat_at h2 hcs] at this
/-- A row of the call's own. -/
def ORow (F : PH) (E : TypeId) (v : Value) (xs : List α) : Asrt := Whole (All2 (Rp.rep F) xs) fun css => [own v E r.sz xs.length css.flatten]
instance liftA_orow (F : PH) (E : TypeId) (v : Value) (xs : List α) : LiftA F (ORow F E v xs) (fun G => ORow G E v xs) := ⟨fun _ g _ ⟨css, h, s⟩ => ⟨css, h.rmono g, s⟩⟩
end
theorem Sat.wfold {α : Type} {q : α → Prop} {L : α → List Asrt} {F : PH} {H : List Asrt} {w : World} (x : α) (hq : q x) (s : Sat F (L x ++ H) w) : Sat F (Whole q L :: H) w := by
  obtain ⟨r, hr, hF, hl⟩ := s
  obtain ⟨a, b, ha, hb, hd, e⟩ := Star.append.1 hr
  exact ⟨r, ⟨a, b, ⟨x, hq, ha⟩, hb, hd, e⟩, hF, hl⟩
section
variable {α : Type} [r : Rp α]
/-- A row without elements. -/
theorem J_orow (E : TypeId) {C : Ctx} {k : List KItem} {l : Env} {F : PH} {H : List Asrt} (h : J C k l F (ORow (α := α) F E (.slice none 0 0) [] :: H)) : J C k l F H :=
  J_own_nil E r.sz (J_weak h fun _ s => Sat.wfold [] .nil s)
/-- A row of the call's own that is kept. -/
theorem J_keep_row {E : TypeId} {v : Value} {xs : List α} {C : Ctx} {k : List KItem} {l : Env} {F : PH} {H Hr : List Asrt} {Hr' : PH → List Asrt} (h : ∀ G, F.le G → Row G v xs → J C k l G (Hr' G)) (t : Tak H [ORow F E v xs] Hr := by repeat (first | exact Tak.nil | exact Pick.here | apply Pick.there | apply Tak.cons)) (lf : LiftL F Hr Hr' := by infer_instance) : J C k l F H := by
  refine J_weak (H' := ORow F E v xs :: Hr) ?_ fun _ s => t.sat s
  refine J_whole fun css hc => ?_
  refine J_persist fun h' hA hd => ?_
  have g : F.le (F.un h') := PH.le_l _ _
  refine J_weak (h (F.un h') g ⟨css, ?_, hc.rmono g⟩) fun _ s => Sat.lift (Hc := []) g s
  exact own_slice hA hd
section
variable {C : Ctx} {ops : Array Oper} {k : List KItem} {l : Env} {F Fs : PH} {H Hs Hr : List Asrt} {T E size bytes : Nat} {z : Value} {d1 d2 : Nat} {U1 U2 : TypeId} {pos1 pos2 : String} {af1 af2 : Array Edge} {g1 g2 : Option (Nat × Bool)} {x y : Operand} {v yv : Value} {xs : List α} {a : α} {vs : List Value}
/-- 'append(s, x)' onto a row of the call's own. -/
theorem oPush {rest : List Oper} (he : Elem C.P T E r.sz bytes z) (ha : r.rep F a vs)
    (h : ∀ q c w, JM C false ops rest k ((d2, .slice q (xs.length + 1) c) :: (d1, w) :: l) F (ORow F E (.slice q (xs.length + 1) c) (xs ++ [a]) :: Hr))
    (hx : ∀ w, opv ((d1, w) :: l) x = some v := by exact fun _ => rfl) (hy : opv l y = some yv := by rfl) (hv : VC yv vs := by constructor) (t : Tak H [ORow F E v xs] Hr := by repeat (first | exact Tak.nil | exact Pick.here | apply Pick.there | apply Tak.cons)) (hb : (xs.length + 1) * bytes ≤ 140737488355328 := by omega)
    (hr1 : runs ops l ⟨some d1, .buildSlice T 1 #[(0, y)], U1, pos1, af1, g1⟩ = some true := by rfl)
    (hr2 : ∀ w, runs ops ((d1, w) :: l) ⟨some d2, .call { callee := .builtin .append, args := #[x, .tmp d1], argTypes := #[T, T] }, U2, pos2, af2, g2⟩ = some true := by exact fun _ => rfl) :
    JM C false ops (⟨some d1, .buildSlice T 1 #[(0, y)], U1, pos1, af1, g1⟩ :: ⟨some d2, .call { callee := .builtin .append, args := #[x, .tmp d1], argTypes := #[T, T] }, U2, pos2, af2, g2⟩ :: rest) k l F H := by
  refine oW (H' := ORow F E v xs :: Hr) ?_ fun _ s => t.sat s
  refine JM_whole fun css hc => ?_
  refine oA (K := fun u => own u E r.sz (xs.length + 1) (css.flatten ++ vs) :: Hr) hx hy hv (r.len ha) he (r.ones ha) hb (fun _ => .here) hr1 hr2 fun u w => ?_
  refine oOwn .here fun q c e _ _ _ => ?_
  subst e
  refine oW (h q c w) fun _ s => Sat.wfold (css ++ [vs]) (hc.snocR ha) ?_
  rw [List.length_append, List.length_singleton, List.flatten_append]
  simpa using s
end
end
end Go.Proofs.YtjjjckmpkldgnaaGreatDoor
namespace Go.Proofs.YtjjjckmpkldgnaaGreatDoor
open Go.RowKit
set_option maxRecDepth 100000
/-- A digested text: its kind, and it. -/
abbrev Hk := Int × List UInt8
def hkV (a : Hk) : Value := .agg [.int .u8 a.1, .string (strOf a.2)].toArray
def keyHs : KeyT Tryz.prog 661 Hk where
  val := hkV
  chk := fun b a w => checkKey_two (f1 := (Tryz.prog.fieldsOf 661)[0]!) (f2 := (Tryz.prog.fieldsOf 661)[1]!) (by kernel_rfl) (by kernel_rfl) (by kernel_rfl) (by kernel_rfl) (by kernel_rfl) b _ _ 9998 w
  same := fun a => by simp [hkV, Instr.sameBits, strOf_beq]
  find := find_wide hkV (by kernel_rfl) fun a b w => by
    have h : EqC Tryz.prog 9999 0 [.int .u8 a.1, .string (strOf a.2)] [.int .u8 b.1, .string (strOf b.2)] (Tryz.prog.fieldsOf 661).toList _ := .int (by decide) rfl rfl (.str (by decide) rfl rfl .nil)
    have h2 := eqC_struct (d := 9997) (by kernel_rfl) (by kernel_rfl) h w
    refine Eq.trans h2 ?_
    congr 1
    rw [Bool.and_true, strOf_toList, strOf_toList, ← Bool.decide_and]
    congr 1
    rw [Prod.ext_iff]
/-! numbers of keys, as they came -/
section
variable {α : Type} [DecidableEq α]
def posN : List α → α → Nat → Option Nat
  | [], _, _ => none
  | a :: r, k, n => if k = a then some n else posN r k (n + 1)
omit [DecidableEq α] in
omit [DecidableEq α] in
/-- A key's number, and all keys afterwards. -/
def placeK (ks : List α) (k : α) : Nat × List α := match posN ks k 1 with
  | some m => (m, ks)
  | none => (ks.length + 1, ks ++ [k])
end
def dnuB (kind : Int) (n : Nat) : List UInt8 := UInt8.ofNat kind.toNat :: (List.replicate 23 0 ++ putB n 8)
theorem dnuB_len (kind : Int) (n : Nat) : (dnuB kind n).length = 32 := by
  have := putB_len (v := n) (m := 8) rfl
  simp only [dnuB, List.length_cons, List.length_append, List.length_replicate]
  rw [show (8 : Int) = ((8 : Nat) : Int) from rfl, this]
theorem dnuB_u8s (k : Int) (hk : 0 ≤ k ∧ k < 256) (n : Nat) : u8s (dnuB k n) = .int .u8 k :: (List.replicate 23 (.int .u8 0) ++ u8s (putB n 8)) := by
  have e : ((UInt8.ofNat k.toNat).toNat : Int) = k := by
    rw [UInt8.toNat_ofNat']
    omega
  unfold dnuB
  show Value.int .u8 ((UInt8.ofNat k.toNat).toNat : Int) :: u8s (List.replicate 23 0 ++ putB n 8) = _
  rw [e, u8s_append]
  rfl
end Go.Proofs.YtjjjckmpkldgnaaGreatDoor
namespace Go.Proofs.YtjjjckmpkldgnaaGreatDoor
open Go.RowKit
section
variable {C : Ctx} {Fs : PH} {Hs : List Asrt} {ops : Array Oper} {fuel : Nat} {listed : Array Bool} {k : List KItem} {l : Env} {F : PH} {H : List Asrt} {d : Nat} {T : TypeId} {pos : String} {af : Array Edge} {g : Option (Nat × Bool)}
end
end Go.Proofs.YtjjjckmpkldgnaaGreatDoor
namespace Go.Proofs.YtjjjckmpkldgnaaGreatDoor
open Go.RowKit
set_option maxRecDepth 100000
/-! ### calls that hand back what lasts -/
def uN (k : Int) : Nat := (k % 18446744073709551616).toNat
theorem uN_lt (k : Int) : uN k < 2 ^ 64 := by unfold uN; omega
section
variable {P : Program} {l : Env} {F : PH} {H : List Asrt} {d : Option Nat} {T T' U : TypeId} {pos : String} {af : Array Edge} {g : Option (Nat × Bool)} {x y : Operand}
end
/-! ### names -/
end Go.Proofs.YtjjjckmpkldgnaaGreatDoor
namespace Go.Proofs.YtjjjckmpkldgnaaGreatDoor
open Go.RowKit
set_option maxRecDepth 100000
theorem checkKey_three {P : Program} {kt : TypeId} {f1 f2 f3 : Field} (hu : P.underlying kt = some (.struct #[f1, f2, f3])) (h1 : plainKey P f1.type = true) (h2 : plainKey P f2.type = true) (h3 : plainKey P f3.type = true) (ho1 : f1.offset = 0) (ho2 : f2.offset = 1) (ho3 : f3.offset = 2) (b : Bool) (x y z : Value) (n : Nat) (w : World) :
    (Instr.checkKey b (n + 2) kt (.agg #[x, y, z])).run P w = .ok () w := by
  have q1 : (part f1.type #[x, y, z] f1.offset).run P w = .ok x w := part_plain (cs := [x, y, z]) h1 (by rw [ho1]; rfl) w
  have q2 : (part f2.type #[x, y, z] f2.offset).run P w = .ok y w := part_plain (cs := [x, y, z]) h2 (by rw [ho2]; rfl) w
  have q3 : (part f3.type #[x, y, z] f3.offset).run P w = .ok z w := part_plain (cs := [x, y, z]) h3 (by rw [ho3]; rfl) w
  have c1 := checkKey_plain h1 n b x w
  have c2 := checkKey_plain h2 n b y w
  have c3 := checkKey_plain h3 n b z w
  rw [Instr.checkKey]
  simp only [Sem.run_bind, run_underlying hu, Result.andThen_ok]
  rw [show (#[f1, f2, f3] : Array Field) = [f1, f2, f3].toArray from rfl, List.forIn_toArray]
  by_cases n1 : f1.name = "_" <;> by_cases n2 : f2.name = "_" <;> by_cases n3 : f3.name = "_" <;> simp only [List.forIn_cons, List.forIn_nil, Sem.run_bind, Sem.run_pure, n1, n2, n3, ne_eq, not_true_eq_false, not_false_eq_true, if_true, if_false, q1, q2, q3, c1, c2, c3, Result.andThen_ok]
abbrev B8 := List UInt8
/-- A tagged text: who says it, to whom, and it. -/
abbrev Sk := Int × Int × B8
def skV (a : Sk) : Value := .agg [.int .i64 a.1, .int .i64 a.2.1, .string (strOf a.2.2)].toArray
def keySk : KeyT Tryz.prog 664 Sk where
  val := skV
  chk := fun b a w => checkKey_three (f1 := (Tryz.prog.fieldsOf 664)[0]!) (f2 := (Tryz.prog.fieldsOf 664)[1]!) (f3 := (Tryz.prog.fieldsOf 664)[2]!) (by kernel_rfl) (by kernel_rfl) (by kernel_rfl) (by kernel_rfl) (by kernel_rfl) (by kernel_rfl) (by kernel_rfl) b _ _ _ 9998 w
  same := fun a => by simp [skV, Instr.sameBits, strOf_beq]
  find := find_wide skV (by kernel_rfl) fun a b w => by
    have h : EqC Tryz.prog 9999 0 [.int .i64 a.1, .int .i64 a.2.1, .string (strOf a.2.2)] [.int .i64 b.1, .int .i64 b.2.1, .string (strOf b.2.2)] (Tryz.prog.fieldsOf 664).toList _ := .int (by decide) rfl rfl (.int (by decide) rfl rfl (.str (by decide) rfl rfl .nil))
    have h2 := eqC_struct (d := 9997) (by kernel_rfl) (by kernel_rfl) h w
    refine Eq.trans h2 ?_
    congr 1
    rw [Bool.and_true, strOf_toList, strOf_toList, ← Bool.decide_and, ← Bool.decide_and]
    congr 1
    rw [Prod.ext_iff, Prod.ext_iff]
/-- The numbers as int has them. -/
def digW {α : Type} : List α → Nat → List (α × Value)
  | [], _ => []
  | a :: r, n => (a, .int .i64 (IntKind.i64.wrap n)) :: digW r (n + 1)
theorem getK_digW {α : Type} [DecidableEq α] (k : α) : ∀ (ks : List α) (n : Nat), getK (digW ks n) k = (posN ks k n).map fun (m : Nat) => Value.int .i64 (IntKind.i64.wrap m)
  | [], n => rfl
  | a :: r, n => by
    unfold digW posN
    rw [getK_cons]
    by_cases h : k = a
    · rw [if_pos h, if_pos h]; rfl
    · rw [if_neg h, if_neg h, getK_digW k r (n + 1)]
theorem digW_snoc {α : Type} (k : α) : ∀ (ks : List α) (n : Nat), digW (ks ++ [k]) n = digW ks n ++ [(k, .int .i64 (IntKind.i64.wrap ((n + ks.length : Nat) : Int)))]
  | [], n => rfl
  | a :: r, n => by
    show (a, _) :: digW (r ++ [k]) (n + 1) = _
    rw [digW_snoc k r (n + 1)]
    simp only [digW, List.cons_append, List.length_cons]
    rw [show n + 1 + r.length = n + (r.length + 1) from by omega]
theorem digW_len {α : Type} : ∀ (ks : List α) (n : Nat), (digW ks n).length = ks.length
  | [], _ => rfl
  | a :: r, n => by simp [digW, digW_len r]
theorem digW_set {α : Type} [DecidableEq α] {ks : List α} {k : α} (hg : getK (digW ks 1) k = none) : setK (digW ks 1) k (.int .i64 (IntKind.i64.wrap ((ks.length : Int) + 1))) = digW (ks ++ [k]) 1 := by
  have hsc : scanK k (digW ks 1) 0 = none := by
    cases hs : scanK k (digW ks 1) 0 with
    | none => rfl
    | some q => unfold getK at hg; rw [hs] at hg; cases hg
  rw [(scanK_none hsc _).1, digW_snoc]
  rw [show ((1 + ks.length : Nat) : Int) = (ks.length : Int) + 1 from by omega]
def wI (n : Nat) : Int := IntKind.i64.wrap n
theorem place2_spec (m : Nat) (k : Sk) (ks : List Sk) (F : PH) : Spec Tryz.prog 543 [.map (some m), skV k] F [mp keySk m (digW ks 1)] fun u _ H' => u = .int .i64 (wI (placeK ks k).1) ∧ H' = [mp keySk m (digW (placeK ks k).2 1)] := by 
    have hg := getK_digW k ks 1 
    refine Spec.of2 Tryz.func543 rfl rfl fun X w0 => ?_ 
    unfold skV 
    refine zT ?_ 
    refine oBx fun b3 => ?_ 
    refine zT ?_ 
    refine oS (ev_load_agg (cs := [.int .i64 k.1, .int .i64 k.2.1, .string (strOf k.2.2)]) rfl rfl (Rdb.ofB (n := 0) .here rfl) rfl) rfl ?_ 
    unfold placeK 
    cases hp : posN ks k 1 with 
    | some n => 
      rw [hp] at hg 
      refine oS (ev_lookup_ok (K := keySk) (a := k) (zv := .int .i64 0) (r := .tuple #[.int .i64 (wI n), .bool true]) rfl rfl rfl rfl (.there .here) (by rw [hg]; rfl)) rfl ?_ 
      refine zT ?_ 
      refine jRs [mp _ _ _] ?_ 
      exact ⟨rfl, rfl⟩ 
    | none => 
      rw [hp] at hg 
      refine oS (ev_lookup_ok (K := keySk) (a := k) (zv := .int .i64 0) (r := .tuple #[.int .i64 0, .bool false]) rfl rfl rfl rfl (.there .here) (by rw [hg]; rfl)) rfl ?_ 
      refine zT ?_ 
      refine oS (ev_len_map (K := keySk) rfl rfl (.there .here)) rfl ?_ 
      rw [digW_len] 
      refine zT ?_ 
      refine oS (ev_addw rfl rfl) rfl ?_ 
      refine zT ?_ 
      refine oS (ev_load_agg (cs := [.int .i64 k.1, .int .i64 k.2.1, .string (strOf k.2.2)]) rfl rfl (Rdb.ofB (n := 0) .here rfl) rfl) rfl ?_ 
      refine zT ?_ 
      refine oN (ev_mapUpdate (K := keySk) (M := digW ks 1) (b := m) (a := k) rfl rfl rfl rfl (.there .here)) rfl ?_ 
      rintro _ _ _ _ ⟨rfl, _, rfl⟩ 
      rw [digW_set hg] 
      refine zT ?_ 
      refine jRs [mp _ _ _] ?_ 
      exact ⟨by simp [retV, wI], rfl⟩
set_option maxHeartbeats 4000000 in
theorem num_spec (k z : Int) (F : PH) (hk : 0 ≤ k ∧ k < 256) : Spec Tryz.prog 541 [.int .u8 k, .int .i64 z] F [] fun u _ H' => u = .agg (u8s (dnuB k (uN z))).toArray ∧ H' = [] := by
  have hl8 : (putB (uN z) 8).length = 8 := putB_len (m := 8) rfl
  have h8 : (u8s (putB (uN z) 8)).length = 8 := by rw [u8s_len, hl8]
  have h32 : (u8s (dnuB k (uN z))).length = 32 := by rw [u8s_len, dnuB_len]
  refine Spec.of2 Tryz.func541 rfl rfl fun X w0 => ?_
  refine zT ?_
  refine oAl (cs := u8s (List.replicate 32 0)) fun b4 => ?_
  refine zT ?_
  refine oS (ev_build_arr (t := .int .u8 k :: List.replicate 31 (.int .u8 0)) (zs := u8s (List.replicate 32 0)) rfl rfl rfl (.cons .int rfl (by repeat constructor) .nil)) rfl ?_
  refine oAl (cs := u8s (List.replicate 32 0)) fun b5 => ?_
  have hone : Ones (.int .u8 k :: List.replicate 31 (.int .u8 0) : List Value) := fun v hv => by
    rcases List.mem_cons.1 hv with rfl | hv
    · rfl
    · rw [List.eq_of_mem_replicate hv]; rfl
  refine oSt ?_ (b := b5) (vs := .int .u8 k :: List.replicate 31 (.int .u8 0)) (hlay := lay_all (zs := u8s (List.replicate 32 0)) rfl) (h1 := hone)
  refine zT ?_
  refine jA' [] ?_
  refine aTv 0 rfl (ev_slice_arr_lo (lo := 24) rfl rfl rfl (by decide)) ?_
  refine zR ?_
  refine aTv 2 rfl (ev_conv (r := (uN z : Int)) rfl rfl rfl (by unfold uN; show z % 2 ^ 64 = _; omega)) ?_
  refine aL' (i := 3) (by kernel_rfl) (put_spec none 0 (uN z) 8 [] F (SliceV.nil F 1) (Nat.le_refl _) (uN_lt z) (by decide)) Tryz.call100 ?_
  rintro u _ _ _ ⟨rfl, rfl⟩
  rw [List.nil_append]
  refine aWith (q := OwnForm u (putB (uN z) 8).length) .here OwnForm.of fun hf => ?_
  have hf' := hf
  obtain ⟨ua, uc, rfl, _⟩ := hf'
  have hlay : Lay 24 (u8s (putB (uN z) 8)) (.int .u8 k :: List.replicate 31 (.int .u8 0)) (.int .u8 k :: (List.replicate 23 (.int .u8 0) ++ u8s (putB (uN z) 8))) := by
    have h := layP (.int .u8 k :: List.replicate 23 (.int .u8 0)) (lay_all (vs := u8s (putB (uN z) 8)) (zs := List.replicate 8 (.int .u8 0)) (by rw [h8]; simp))
    exact h
  refine aB (i := 4) (by kernel_rfl) (aE rfl (ev_copy (k := 8) rfl rfl rfl (RdB.own hf .here) (u8s_ones _) (by rw [hl8]; rfl) (by rw [← h8, List.take_length]) hlay (.there .here)) rfl rfl (fun _ _ _ hF hq w t => by obtain ⟨rfl, rfl, rfl⟩ := hq; exact t.bare) ?_)
  rintro _ _ _ _ ⟨rfl, rfl, rfl⟩
  rw [← dnuB_u8s k hk]
  refine aD (by kernel_rfl) ?_
  refine zT ?_
  refine oS (ev_load_agg (cs := u8s (dnuB k (uN z))) rfl rfl (Rdb.ofB (n := 0) (.there .here) (by rw [List.drop_zero]; exact List.take_length)) h32) rfl ?_
  refine oSt ?_ (b := b4) (hlay := lay_all (zs := u8s (List.replicate 32 0)) (by rw [h32]; rfl)) (h1 := u8s_ones _) (hn := h32)
  refine zT ?_
  refine jRs (vs := [.agg (u8s (dnuB k (uN z))).toArray]) [] ?_ (h := .agg rfl rfl (Rdb.ofB (n := 0) (.there (.there .here)) (by rw [List.drop_zero]; exact List.take_length)) h32 .nil)
  exact ⟨rfl, rfl⟩
abbrev Dg := {d : B8 // d.length = 32}
abbrev Dg.v (d : Dg) : Value := .agg (u8s d.1).toArray
/-- What a book knows. -/
structure K where
  dg : List Hk
  tg : List Sk
def kbyte (k : Int) : Int := k % 256
def dgN (kind : Int) (n : Nat) : Dg := ⟨dnuB kind (uN (wI n)), dnuB_len _ _⟩
def K.tag (k : K) (a b : Int) (t : B8) : Dg × K := (dgN 255 (placeK k.tg (a, b, t)).1, { k with tg := (placeK k.tg (a, b, t)).2 })
def K.has (k : K) (a b : Int) (t : B8) : Bool := (posN k.tg (a, b, t) 1).isSome
def K.chk (k : K) (a b : Int) (t : B8) (g : Dg) : Bool := k.has a b t && decide (g = (k.tag a b t).1)
def bkL (b : Nat) (k : K) (m : Nat × Nat) : List Asrt := [blk b 86 [.map (some m.1), .map (some m.2)], mp keyHs m.1 (digW k.dg 1), mp keySk m.2 (digW k.tg 1)]
def bkA (b : Nat) (k : K) : Asrt := Whole (fun _ : Nat × Nat => True) (bkL b k)
abbrev ptr (b : Nat) : Value := .pointer (some ⟨b, 0, none⟩)
set_option maxHeartbeats 4000000 in
theorem tag_spec (b : Nat) (k : K) (x y : Int) (v : Value) (t : B8) (F : PH) (h : Byt F v t) : Spec Tryz.prog 539 [ptr b, .int .i64 x, .int .i64 y, v] F [bkA b k] fun u _ H' => u = (k.tag x y t).1.v ∧ H' = [bkA b (k.tag x y t).2] := by
  refine Spec.whole fun m _ => ?_
  obtain ⟨_, a, c, rfl, hc, _⟩ := id h
  refine Spec.of4 Tryz.func539 rfl rfl fun X w0 => ?_
  refine zT ?_
  refine oAl (cs := u8s (List.replicate 32 0)) fun b6 => ?_
  refine zT ?_
  refine jA' [blk b _ _] ?_
  refine zR ?_
  refine aTv 7 rfl (eb_string rfl h.rds) ?_
  refine zR ?_
  refine aL' (i := 9) (by kernel_rfl) (place2_spec m.2 (x, y, t) k.tg F) Tryz.call543 ?_
  rintro _ _ _ hG ⟨rfl, rfl⟩
  refine aL' (i := 10) (by kernel_rfl) (num_spec 255 _ _ (by decide)) Tryz.call541 ?_
  rintro _ _ _ hG2 ⟨rfl, rfl⟩
  refine aSt (i := 11) (by kernel_rfl) ?_ (b := b6) (n := 32) (hlay := lay_all (zs := u8s (List.replicate 32 0)) (by simp [u8s_len, dnuB_len])) (hn := by rw [u8s_len, dnuB_len]) (h1 := u8s_ones _)
  refine aD (by kernel_rfl) ?_
  refine J_fold (bkA b (k.tag x y t).2) (bkL b (k.tag x y t).2 m) (Whole.of m trivial) ?_
  refine zT ?_
  refine jRs (vs := [(k.tag x y t).1.v]) [bkA _ _] ?_ (h := .agg rfl rfl (Rdb.ofB (n := 0) (.there .here) (by rw [List.drop_zero]; exact List.take_length)) (by rw [u8s_len]; exact (k.tag x y t).1.2) .nil)
  exact ⟨rfl, rfl⟩
set_option maxHeartbeats 4000000 in
theorem has_spec (b : Nat) (k : K) (x y : Int) (v : Value) (t : B8) (F : PH) (h : Byt F v t) : Spec Tryz.prog 540 [ptr b, .int .i64 x, .int .i64 y, v] F [bkA b k] fun u _ H' => u = .bool (k.has x y t) ∧ H' = [bkA b k] := by
  refine Spec.whole fun m _ => ?_
  obtain ⟨_, a, c, rfl, hc, _⟩ := id h
  have hg := getK_digW (x, y, t) k.tg 1
  refine Spec.of4 Tryz.func540 rfl rfl fun X w0 => ?_
  refine zT ?_
  refine jA' [blk b _ _, mp keySk m.2 _] ?_
  refine zR ?_
  refine aTv 7 rfl (eb_string rfl h.rds) ?_
  refine zR ?_
  refine aTv 9 rfl (ev_lookup_ok (K := keySk) (a := (x, y, t)) (zv := .int .i64 0) (r := .tuple #[.int .i64 (((posN k.tg (x, y, t) 1).map wI).getD 0), .bool (k.has x y t)]) rfl rfl rfl rfl (.there .here) (by rw [hg]; unfold K.has; cases posN k.tg (x, y, t) 1 <;> rfl)) ?_
  refine zR ?_
  refine aD (by kernel_rfl) ?_
  refine J_fold (bkA b k) (bkL b k m) (Whole.of m trivial) ?_
  refine zF ?_
  exact ⟨rfl, rfl⟩
set_option maxHeartbeats 4000000 in
theorem chk_spec (b : Nat) (k : K) (x y : Int) (v : Value) (t : B8) (g : Dg) (F : PH) (h : Byt F v t) : Spec Tryz.prog 536 [ptr b, .int .i64 x, .int .i64 y, v, g.v] F [bkA b k] fun u _ H' => u = .bool (k.chk x y t g) ∧ H' = [bkA b k] := by
  refine Spec.of5 Tryz.func536 rfl rfl fun X w0 => ?_
  refine zT ?_
  refine oBx fun b9 => ?_
  refine zT ?_
  refine jA' [blk b9 _ _] ?_
  refine zR ?_
  refine aL' (i := 4) (by kernel_rfl) (has_spec b k x y v t F h) Tryz.call540 ?_
  rintro _ G _ hG ⟨rfl, rfl⟩
  cases hk : k.has x y t with
  | false =>
    refine zR ?_
    refine aD (by kernel_rfl) ?_
    refine zT ?_
    refine jRs [bkA _ _] ?_
    exact ⟨by simp [retV, K.chk, hk], rfl⟩
  | true =>
    have hh : (k.tag x y t).2 = k := by
      have := hk
      unfold K.has at this
      unfold K.tag placeK
      cases hp : posN k.tg (x, y, t) 1 with
      | none => rw [hp] at this; cases this
      | some n => rfl
    refine zR ?_
    refine aTv 6 rfl (ev_load_agg (cs := u8s g.1) rfl rfl (Rdb.ofB (n := 0) .here (by rw [List.drop_zero]; exact List.take_length)) (by rw [u8s_len]; exact g.2)) ?_
    refine aL' (i := 11) (by kernel_rfl) (tag_spec b k x y v t G (h.mono hG)) Tryz.call539 ?_
    rintro _ G2 _ hG2 ⟨rfl, rfl⟩
    refine aTv 12 rfl (ev_arr_eql rfl rfl rfl rfl g.2 (k.tag x y t).1.2 (by kernel_rfl)) ?_
    refine zR ?_
    refine aD (by kernel_rfl) ?_
    rw [hh]
    refine zT ?_
    refine jRs [bkA _ _] ?_
    refine ⟨?_, rfl⟩
    simp only [retV, K.chk, hk, Bool.true_and]
    congr 1
    rw [Bool.eq_iff_iff, beq_iff_eq, decide_eq_true_iff, Subtype.ext_iff]
end Go.Proofs.YtjjjckmpkldgnaaGreatDoor
namespace Go.Proofs.YtjjjckmpkldgnaaGreatDoor
open Go.RowKit
set_option maxRecDepth 100000
instance rpInt : Rp Int where
  sz := 1
  rep := fun _ x cs => cs = [.int .i64 x]
  len := fun h => by rw [h]; rfl
  ones := fun h => by rw [h]; exact ones_cons rfl ones_nil
  mono := fun _ h => h
theorem elI : Elem Tryz.prog 40 3 1 8 (.int .i64 0) := ⟨rfl, ⟨_, rfl, rfl, rfl, rfl, rfl, by decide⟩, rfl, rfl⟩
def allN (n : Nat) : List Int := (List.range n).map Int.ofNat
theorem allN_len (n : Nat) : (allN n).length = n := by simp [allN]
theorem allN_succ (n : Nat) : allN (n + 1) = allN n ++ [(n : Int)] := by simp [allN, List.range_succ]
set_option maxHeartbeats 4000000 in
theorem all_spec (n : Nat) (F : PH) (hn : n ≤ 7) : Spec Tryz.prog 11 [.int .i64 n] F [] fun u G H' => H' = [] ∧ Row G u (allN n) := by
  refine Spec.of1 Tryz.func11 rfl rfl fun X w0 => ?_
  refine zT ?_
  refine J_orow (α := Int) 3 ?_
  refine J_loop (ι := Nat × Value) (fun i => i.1 ≤ n) (fun i => n - i.1) (fun i => [(3, i.2), (8, .int .i64 n), (9, .int .i64 i.1)]) (fun _ => F) (fun i => ORow F 3 i.2 (allN i.1) :: X) (0, .slice none 0 0) (Nat.zero_le _) ⟨by refine ⟨rfl, ?_, rfl, trivial⟩; show some (Value.int .i64 (max (n : Int) 0)) = _; congr 2; omega, fun w s => s⟩ ?_
  rintro ⟨i, v⟩ hi
  dsimp only at hi ⊢
  by_cases hlt : i < n
  · refine zT ?_
    refine oPush elI (a := (i : Int)) rfl (fun q c w => ?_) (hb := by rw [allN_len]; omega)
    refine zT ?_
    refine J_again (i + 1, _) hlt (by dsimp only; omega) ⟨⟨rfl, rfl, rfl, trivial⟩, fun w s => ?_⟩
    dsimp only
    rw [allN_succ]
    exact s
  · obtain rfl : i = n := by omega
    refine zT ?_
    refine J_keep_row fun G hG h => ?_
    refine zF ?_
    exact ⟨rfl, h⟩
theorem star1 {A B : Asrt} (f : ∀ h, A h → B h) : ∀ r, Star [A] r → B r := by
  rintro _ ⟨h1, _, hA, rfl, _, rfl⟩
  rw [PH.un_emp]
  exact f _ hA
theorem oFold {C : Ctx} {ops : Array Oper} {rest : List Oper} {k : List KItem} {l : Env} {F : PH} {H Hc Hr : List Asrt} {A : Asrt} (f : ∀ r, Star Hc r → A r) (h : JM C false ops rest k l F (A :: Hr)) (t : Tak H Hc Hr := by repeat (first | exact Tak.nil | exact Pick.here | apply Pick.there | apply Tak.cons)) : JM C false ops rest k l F H :=
  oW h fun _ s => by
    obtain ⟨r, hr, hd, hl⟩ := t.sat s
    obtain ⟨x, y, hx, hy, hxy, e⟩ := Star.append.1 hr
    exact ⟨r, ⟨x, y, f x hx, hy, hxy, e⟩, hd, hl⟩
set_option maxHeartbeats 4000000 in
theorem text_spec (kind : Int) (v : Value) (t : B8) (F : PH) (h : Byt F v t) (hl : t.length ≤ 1000000000) : Spec Tryz.prog 120 [.int .i64 kind, v] F [] fun u G H' => H' = [] ∧ Byt G u (UInt8.ofNat (kbyte kind).toNat :: t) := by
  obtain ⟨_, a, c, rfl, hc, _⟩ := id h
  refine Spec.of2 Tryz.func120 rfl rfl fun X w0 => ?_
  refine zT ?_
  refine oS (ev_conv (r := kbyte kind) rfl rfl rfl rfl) rfl ?_
  refine oE (ev_one (vs := [.int .u8 (kbyte kind)]) rfl .int rfl elB) rfl ?_
  rintro _ _ _ _ ⟨rfl, b, rfl, rfl⟩
  refine zT ?_
  refine oFold (star1 (blk_own (size := 1) (n := 1) (cs := [.int .u8 (kbyte kind)]) rfl (by decide))) ?_
  refine oE (ev_append_s (n := 1) (m := t.length) (K := fun u => own u 5 1 (1 + t.length) ([.int .u8 (kbyte kind)] ++ u8s t) :: X) rfl rfl elB h.rds (u8s_ones _) (by omega) (fun _ => .here)) rfl ?_
  rintro u _ _ _ ⟨rfl, _, rfl⟩
  refine zT ?_
  refine J_persist fun h' hA hd => ?_
  have hs := own_slice hA hd
  have hF : F.le (F.un h') := PH.le_l _ _
  refine zF ?_
  refine ⟨rfl, ?_⟩
  show SliceV _ 1 u (t.length + 1) (u8s (_ :: t))
  have e : u8s (UInt8.ofNat (kbyte kind).toNat :: t) = [.int .u8 (kbyte kind)] ++ u8s t := by
    show Value.int .u8 (((UInt8.ofNat (kbyte kind).toNat).toNat : Nat) : Int) :: u8s t = _
    have : ((UInt8.ofNat (kbyte kind).toNat).toNat : Int) = kbyte kind := by rw [UInt8.toNat_ofNat']; unfold kbyte; omega
    rw [this]; rfl
  rw [e, Nat.add_comm]
  exact hs
section
variable {C : Ctx} {ops : Array Oper} {k : List KItem} {l : Env} {F Fs : PH} {H Hs Hr : List Asrt} {d : Nat} {T U : TypeId} {pos : String} {af : Array Edge} {g : Option (Nat × Bool)} {fuel : Nat} {listed : Array Bool}
/-- A call by an interface that stands next in a region of open order. -/
theorem aIL {f : FuncId} {x : Operand} {args : List Operand} {tys : Array TypeId} {vs : List Value} {t : TypeId} {rv : Value} {name : String} {Hc Ht : List Asrt} {Hr' : PH → List Asrt} {Q : Value → PH → List Asrt → Prop} {i : Nat} (hrd : Region.ready .any ops listed = [i]) (hmt : MethR C.P t rv name f) (sp : Spec C.P f (rv :: vs) F Hc Q)
    (h : ∀ v G H', F.le G → Q v G H' → JA C (Sat Fs Hs) ops fuel (listed.setIfInBounds i true) k ((d, v) :: l) G (H' ++ Hr' G))
    (ho : ops[i]? = some ⟨some d, .call { callee := .invoke x name, args := args.toArray, argTypes := tys }, T, pos, af, g⟩ := by rfl) (hx : opv l x = some (.iface t rv) := by rfl) (hv : opvs l args = some vs := by rfl)
    (hr : runs ops l ⟨some d, .call { callee := .invoke x name, args := args.toArray, argTypes := tys }, T, pos, af, g⟩ = some true := by rfl) (hN : Nat.blt d C.N = true := by rfl)
    (tk : Tak H Hc Hr := by repeat (first | exact Tak.nil | exact Pick.here | apply Pick.there | apply Tak.cons)) (ts : Tak Hr Hs Ht := by repeat (first | exact Tak.nil | exact Pick.here | apply Pick.there | apply Tak.cons)) (lf : LiftL F Hr Hr' := by infer_instance) (hFs : Fs.le F := by repeat (first | assumption | exact PH.ler _ | refine PH.le.trans ?_ (by assumption))) (ts' : ∀ G, ∃ Ht', Tak (Hr' G) Hs Ht' := by intro G; exact ⟨_, by repeat (first | exact Tak.nil | exact Pick.here | apply Pick.there | apply Tak.cons)⟩) :
    JA C (Sat Fs Hs) ops (fuel + 1) listed k l F H := by
  refine aB hrd (aI (Hr := Hr) ho hx hmt sp hv hr hN (fun _ s => tk.sat s) (fun v G H' hG _ w s => (ts.sat s.right).left.mono (hFs.trans hG)) fun v G H' hG hq => ?_)
  refine aWeak (h v G H' hG hq) (fun w s => ?_) fun _ s => s.lift hG
  obtain ⟨_, t'⟩ := ts' G
  exact (t'.sat s.right).left.mono (hFs.trans hG)
end
theorem ev_iface_eql_nil {P : Program} {l : Env} {F : PH} {H : List Asrt} {d : Option Nat} {T T' U : TypeId} {pos : String} {af : Array Edge} {g : Option (Nat × Bool)} {x y : Operand} {ms : Array (String × TypeId)} {t : TypeId} {p : Value} (hx : opv l x = some (.iface t p)) (hy : opv l y = some .nilIface) (hu : P.underlying T = some (.interface ms)) :
    Ev P ⟨d, .binOp .eql T x y T', U, pos, af, g⟩ l F H (.bool false) := .of fun ρ hρ w _ => by
  have e1 := hρ _ _ hx; have e2 := hρ _ _ hy
  have hr : (Op.equal T (.iface t p) .nilIface).run P w = .ok false w := equal_of _ _ _ _ _ fun n => by simp [Op.equalIn, run_underlying hu]
  refine run_v2 ?_ ?_
  · rw [e1, e2]; rfl
  · rw [e1, e2]; simp [binOp, hr]
/-- The book as what tells digests and tags. -/
def kv (b : Nat) : Value := .iface 27 (ptr b)
theorem mCheck (b : Nat) : MethR Tryz.prog 27 (ptr b) "Check" 536 := fun args w => by kernel_rfl
instance rpDg : Rp Dg where
  sz := 32
  rep := fun _ x cs => cs = u8s x.1
  len := fun {_ x _} h => by rw [h, u8s_len]; exact x.2
  ones := fun h => by rw [h]; exact u8s_ones _
  mono := fun _ h => h
/-- A message. -/
structure Msg where
  kind : Int
  frm : Int
  body : B8
  tags : List Dg
def msgC (kind frm : Int) (vb vt : Value) : List Value := [.int .i64 kind, .int .i64 frm, vb, vt]
instance rpMsg : Rp Msg where
  sz := 4
  rep := fun F m cs => ∃ ab nb cb vt, cs = msgC m.kind m.frm (.slice ab nb cb) vt ∧ Byt F (.slice ab nb cb) m.body ∧ Row F vt m.tags
  len := fun ⟨_, _, _, _, e, _⟩ => by rw [e]; rfl
  ones := fun ⟨_, _, _, _, e, _, h⟩ => by
    obtain ⟨a, c, rfl, _⟩ := h.val
    rw [e]
    unfold msgC
    exact ones_cons rfl (ones_cons rfl (ones_cons rfl (ones_cons rfl ones_nil)))
  mono := fun g ⟨ab, nb, cb, vt, e, h1, h2⟩ => ⟨ab, nb, cb, vt, e, h1.mono g, h2.mono g⟩
def vtext (kind : Int) (b : B8) : B8 := UInt8.ofNat (kbyte kind).toNat :: b
/-- What Check says. -/
def vcheck (k : K) (m : Msg) (place who : Int) : Int := if place < 0 then 12 else match m.tags[place.toNat]? with
  | none => 12
  | some t => if k.chk m.frm who (vtext m.kind m.body) t then 0 else 12
set_option maxHeartbeats 8000000 in
theorem vcheck_spec (b : Nat) (k : K) (m : Msg) (cs : List Value) (place who : Int) (F : PH) (h : Rp.rep F m cs) (hl : m.body.length ≤ 1000000000) (hp : 0 ≤ place) :
    Spec Tryz.prog 49 [kv b, .agg cs.toArray, .int .i64 place, .int .i64 who] F [bkA b k] fun u _ H' => u = .int .i64 (vcheck k m place who) ∧ H' = [bkA b k] := by
  obtain ⟨ab, nb, cb, vt, rfl, hb, ht⟩ := h
  obtain ⟨ta, tc, rfl, _⟩ := ht.val
  refine Spec.of4 Tryz.func49 rfl rfl fun X w0 => ?_
  refine zT ?_
  refine oBx (cs := msgC m.kind m.frm (.slice ab nb cb) (.slice ta m.tags.length tc)) fun b5 => ?_
  refine zT ?_
  refine jA' [blk b5 _ _] ?_
  refine zR ?_
  refine aTv 1 rfl (ev_iface_eql_nil rfl rfl rfl) ?_
  by_cases hlt : place < m.tags.length
  · obtain ⟨i, rfl⟩ : ∃ i : Nat, place = i := ⟨place.toNat, by omega⟩
    have hgi : m.tags[i]? = some (m.tags[i]'(by omega)) := List.getElem?_eq_getElem _
    generalize m.tags[i]'(by omega) = g at *
    obtain ⟨eb, eo, _, rfl, hc1, rfl, _⟩ := ht.at hgi
    refine zR ?_
    refine aTv 26 rfl (ev_indexAddr rfl rfl rfl (by omega)) ?_
    refine aTv 27 rfl (ev_load_agg rfl rfl (Rdb.ofF hc1) (by rw [u8s_len]; exact g.2)) ?_
    refine aTv 28 rfl (ev_makeMethod rfl) ?_
    refine aTv 29 rfl (ev_nilCheckM rfl (fun w => by kernel_rfl)) ?_
    refine aTv 30 rfl (ev_qe rfl) ?_
    refine aL' (i := 22) (by kernel_rfl) (text_spec m.kind _ m.body F hb hl) Tryz.call120 ?_
    rintro x G _ hG ⟨rfl, hx⟩
    refine aIL (i := 31) (by kernel_rfl) (mCheck b) (chk_spec b k m.frm who x (vtext m.kind m.body) g G hx) ?_
    rintro _ G2 _ hG2 ⟨rfl, rfl⟩
    have hv : vcheck k m i who = if k.chk m.frm who (vtext m.kind m.body) g then 0 else 12 := by
      unfold vcheck
      rw [if_neg (by omega), Int.toNat_natCast, hgi]
    rw [hv]
    cases hc : k.chk m.frm who (vtext m.kind m.body) g with
    | true =>
      refine zRe ?_
      refine jRs [bkA _ _] ?_
      exact ⟨rfl, rfl⟩
    | false =>
      refine zRe ?_
      refine jRs [bkA _ _] ?_
      exact ⟨rfl, rfl⟩
  · have hv : vcheck k m place who = 12 := by
      unfold vcheck
      rw [if_neg (by omega), List.getElem?_eq_none (by omega)]
    rw [hv]
    refine zRe ?_
    refine jRs [bkA _ _] ?_
    exact ⟨rfl, rfl⟩
end Go.Proofs.YtjjjckmpkldgnaaGreatDoor
