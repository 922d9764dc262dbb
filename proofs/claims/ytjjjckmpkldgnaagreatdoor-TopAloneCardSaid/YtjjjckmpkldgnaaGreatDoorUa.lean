/-
  A run of closed code by reckoning: values, memory and steps as plain data. Definitions; no condition.
-/
import Derived.Test.YtjjjckmpkldgnaaGreatDoorRows
namespace Go.Proofs.YtjjjckmpkldgnaaGreatDoor.Rk
open Go
/-! trees by numbers -/
inductive Tr (α : Type) where
  | nil
  | node (l : Tr α) (v : Option α) (r : Tr α)
noncomputable def Tr.get {α : Type} (t : Tr α) : Nat → Option α := Tr.rec (fun _ => none) (fun _ v _ gl gr n => Nat.rec v (fun m _ => Bool.rec (gr (Nat.div m 2)) (gl (Nat.div m 2)) (Nat.beq (Nat.mod m 2) 0)) n) t
noncomputable def Tr.put1 {α : Type} (x : α) (f : Nat) : Nat → Tr α := Nat.rec (fun _ => .nil) (fun _ ih n => Nat.rec (.node .nil (some x) .nil) (fun m _ => Bool.rec (.node .nil none (ih (Nat.div m 2))) (.node (ih (Nat.div m 2)) none .nil) (Nat.beq (Nat.mod m 2) 0)) n) f
noncomputable def Tr.set {α : Type} (x : α) (t : Tr α) : Nat → Tr α := Tr.rec (fun n => Tr.put1 x (Nat.succ n) n) (fun l v r sl sr n => Nat.rec (.node l (some x) r) (fun m _ => Bool.rec (.node l v (sr (Nat.div m 2))) (.node (sl (Nat.div m 2)) v r) (Nat.beq (Nat.mod m 2) 0)) n) t
noncomputable def Tr.del {α : Type} (t : Tr α) : Nat → Tr α := Tr.rec (fun _ => .nil) (fun l v r sl sr n => Nat.rec (.node l none r) (fun m _ => Bool.rec (.node l v (sr (Nat.div m 2))) (.node (sl (Nat.div m 2)) v r) (Nat.beq (Nat.mod m 2) 0)) n) t
/-- Every second one. -/
def evens {α : Type} (b : Bool) : List α → List α
  | [] => []
  | a :: r => match b with
    | true => a :: evens false r
    | false => evens true r
def Tr.ofList {α : Type} : Nat → List α → Tr α
  | 0, _ => .nil
  | f + 1, l => match l with
    | [] => .nil
    | a :: r => .node (Tr.ofList f (evens true r)) (some a) (Tr.ofList f (evens false r))
/-! values -/
/-- A capacity: so much, or the block's whole one but so much. -/
inductive CA where
  | k (n : Nat)
  | t (d : Nat)
/-- What a function value carries. -/
inductive PV where
  | ptr (id off : Nat)
  | ifc (t : TypeId) (id off : Nat)
/-- A cell. -/
inductive SV where
  | int (k : IntKind) (n : Int)
  | bool (b : Bool)
  | str (n x : Nat)
  | ptr (id off : Nat)
  | slc (id off len : Nat) (c : CA)
  | map (id : Nat)
  | fn (f : Fn) (first cap : List PV)
  | ifc (t : TypeId) (id off : Nat)
  | pby (n x : Nat)
  | nilp
  | nils
  | nilm
  | nilf
  | nili
inductive TV where
  | s (x : SV)
  | agg (l : List SV)
inductive AV where
  | s (x : SV)
  | agg (l : List SV)
  | tup (l : List TV)
  | und
abbrev Env := Tr AV
/-- What lies in memory. -/
inductive AO where
  | cells (E : TypeId) (cs : List SV)
  | row (E : TypeId) (sz : Nat) (cs : List SV)
  | brow (n x : Nat)
  | map (es : List (TV × TV × Nat)) (clock : Nat)
  | iter (m : Option Nat) (since : Nat) (seen : List Nat) (last : Nat)
  | siter (n x pos : Nat)
  | loop (f : FuncId) (l : Env) (ps : List Nat) (asg body : Code) (dfr : Nat) (pend : Option Code) (st : Nat)
  | dfr
/-- Memory: what lay there, and what has been written since (none: gone). -/
structure Hp where
  ro : Tr AO
  rw : Tr (Option AO)
noncomputable def Hp.get (h : Hp) (n : Nat) : Option AO := match h.rw.get n with
  | some x => x
  | none => h.ro.get n
noncomputable def Hp.set (o : AO) (h : Hp) (n : Nat) : Hp := ⟨h.ro, h.rw.set (some o) n⟩
noncomputable def Hp.del (h : Hp) (n : Nat) : Hp := ⟨h.ro, h.rw.set none n⟩
noncomputable def Hp.nil : Hp := ⟨.nil, .nil⟩
noncomputable def overV (a : Option AO) (b : Option (Option AO)) : Option AO := match b with
  | some x => x
  | none => a
noncomputable def over0 (b : Tr (Option AO)) : Tr AO := Tr.rec .nil (fun _ v _ l r => .node l (overV none v) r) b
noncomputable def over (a : Tr AO) : Tr (Option AO) → Tr AO := Tr.rec over0 (fun al av ar gl gr b => Tr.rec (.node al av ar) (fun bl bv br _ _ => .node (gl bl) (overV av bv) (gr br)) b) a
/-- All that stands, at rest. -/
noncomputable def Hp.firm (h : Hp) : Hp := ⟨over h.ro h.rw, .nil⟩
/-- An operation of a region, its place, and all that it waits for. -/
structure POp where
  i : Nat
  o : Oper
  m : Nat
  nd : Nat
structure Phase where
  new : List POp
  old : List POp
  eff : Option POp
inductive AI where
  | code (c : Code)
  | inLoop (c : Code)
  | inBlock (id : Nat)
  | lin (ops : List Oper) (rest : List Oper)
  | any (ops : List Oper) (ph : List Phase)
  | endr (l : Nat)
  | begr
/-- A frame that waits for a call: where its value goes, and what is left. -/
structure Fr where
  f : FuncId
  l : Env
  dst : Option Nat
  k : List AI
  ro : Option Nat
  df : List Nat
/-- The frame at work, but for its slots and what is left; and those that wait. -/
structure Cx where
  f : FuncId
  ro : Option Nat
  df : List Nat
  stk : List Fr
  nb : Nat
structure St where
  k : List AI
  l : Env
  h : Hp
  nx : Nat
  c : Cx
inductive Res where
  | done (v : AV) (h : Hp) (nx : Nat)
  | at (s : St)
  | bad (n : Nat)
/-- What an operation comes to. -/
inductive SR where
  | v (x : AV)
  | m (x : AV) (h : Hp) (nx : Nat)
  | call (f : FuncId) (args : List AV)
  | yld (l : Nat) (args : List AV)
  | fork (l : List (AV × Hp))
  | bad (n : Nat)
/-! lists -/
noncomputable def lget {α : Type} : List α → Nat → Option α
  | [], _ => none
  | a :: r, n => match n with
    | 0 => some a
    | m + 1 => lget r m
noncomputable def ldrop {α : Type} : List α → Nat → List α
  | [], _ => []
  | a :: r, n => match n with
    | 0 => a :: r
    | m + 1 => ldrop r m
/-- The first n, if there are as many. -/
noncomputable def ltake {α : Type} : Nat → List α → Option (List α)
  | 0, _ => some []
  | n + 1, l => match l with
    | [] => none
    | a :: r => (ltake n r).map (a :: ·)
/-- vs put at a place. -/
noncomputable def lover {α : Type} : List α → List α → Option (List α)
  | [], l => some l
  | v :: vs, l => match l with
    | [] => none
    | _ :: r => (lover vs r).map (v :: ·)
noncomputable def lput {α : Type} (vs : List α) : Nat → List α → Option (List α)
  | 0, l => lover vs l
  | n + 1, l => match l with
    | [] => none
    | a :: r => (lput vs n r).map (a :: ·)
noncomputable def lreps {α : Type} (z : List α) : Nat → List α
  | 0 => []
  | n + 1 => z ++ lreps z n
noncomputable def oget {α β : Type} (x : Option α) (k : α → Option β) : Option β := match x with
  | none => none
  | some a => k a
/-! bytes as numbers -/
noncomputable def packB : List SV → Nat → Option Nat
  | [], x => some x
  | a :: r, x => match a with
    | .int .u8 (.ofNat m) => match Nat.blt m 256 with
      | true => packB r (x * 256 + m)
      | false => none
    | _ => none
noncomputable def unpB : Nat → Nat → List SV → List SV
  | 0, _, acc => acc
  | n + 1, x, acc => unpB n (x / 256) (.int .u8 (.ofNat (x % 256)) :: acc)
noncomputable def packU : List UInt8 → Nat → Nat
  | [], x => x
  | a :: r, x => packU r (x * 256 + a.toNat)
/-! constants -/
noncomputable def ofS : Value → Option SV
  | .bool b => some (.bool b)
  | .int k n => some (.int k n)
  | .string s => some (.str s.size (packU s.data.toList 0))
  | .pointer none => some .nilp
  | .slice none 0 0 => some .nils
  | .map none => some .nilm
  | .func (.func f) ⟨[]⟩ ⟨[]⟩ => some (.fn (.func f) [] [])
  | .nilFunc => some .nilf
  | .nilIface => some .nili
  | _ => none
noncomputable def ofSs : List Value → Option (List SV)
  | [] => some []
  | a :: r => oget (ofS a) fun x => oget (ofSs r) fun l => some (x :: l)
noncomputable def ofC : Value → Option AV
  | .agg cs => (ofSs cs.toList).map .agg
  | v => (ofS v).map .s
/-! types -/

noncomputable def P : Program := Tryz.prog
noncomputable def tyReader : Nat := 423
noncomputable def tyByte : Nat := 5
noncomputable def kindOf (f : Nat) : Nat := match Nat.beq f 182 || Nat.beq f 254 || Nat.beq f 225 with
  | true => 1
  | false => match Nat.beq f 100 with
    | true => 2
    | false => match Nat.beq f 101 with
      | true => 3
      | false => match Nat.beq f 194 with
        | true => 4
        | false => match Nat.beq f 266 with
          | true => 5
          | false => match Nat.beq f 265 with
            | true => 6
            | false => match Nat.beq f 46 with
              | true => 7
              | false => 0

noncomputable def typeTab : Tr TypeInfo := Tr.ofList 20 P.types.toList
noncomputable def funTab : Tr Func := Tr.ofList 20 P.funcs.toList
noncomputable def infoT (T : TypeId) : Option TypeInfo := typeTab.get T
noncomputable def funT (f : FuncId) : Option Func := funTab.get f
noncomputable def undT (T : TypeId) : Option TypeDesc := match infoT T with
  | some i => match i.desc with
    | .named _ u => (infoT u).map (·.desc)
    | d => some d
  | none => none
noncomputable def tsz (T : TypeId) : Option Nat := (infoT T).map (·.size)
noncomputable def tbytes (T : TypeId) : Option Nat := (infoT T).map (·.bytes)
noncomputable def tzero (T : TypeId) : Option (List SV) := oget (infoT T) fun i => oget i.zero fun z => match z with
  | .agg cs => ofSs cs.toList
  | v => (ofS v).map fun x => [x]
noncomputable def tagg (T : TypeId) : Option Nat := match undT T with
  | some (.struct _) => tsz T
  | some (.array _ _) => tsz T
  | _ => none
noncomputable def tplain (T : TypeId) : Bool := match undT T with
  | some (.struct _) => false
  | some (.array _ _) => false
  | some _ => match tsz T with
    | some 1 => true
    | _ => false
  | none => false
noncomputable def tel (T : TypeId) : Option (TypeId × Nat) := match undT T with
  | some (.slice E) => (tsz E).map fun n => (E, n)
  | _ => none
noncomputable def tarr (T : TypeId) : Option (Nat × TypeId × Nat) := match undT T with
  | some (.array n E) => (tsz E).map fun m => (n, E, m)
  | _ => none
noncomputable def tfld (T : TypeId) (i : Nat) : Option (Nat × TypeId) := match undT T with
  | some (.struct fs) => (fs[i]?).map fun f => (f.offset, f.type)
  | _ => none
noncomputable def tfo (T : TypeId) (i : Nat) : Option Nat := match undT T with
  | some (.struct fs) => match fs[i]? with
    | some f => match tsz f.type with
      | some (_ + 1) => some f.offset
      | _ => none
    | none => none
  | _ => none
noncomputable def tmap (T : TypeId) : Option (TypeId × TypeId) := match undT T with
  | some (.map k e) => some (k, e)
  | _ => none
noncomputable def tmeth (t : TypeId) (name : String) : Option FuncId := oget (infoT t) fun i => oget (i.methods.find? (·.name == name)) fun m => match m.path.isEmpty, m.func, undT t with
  | true, some (f, true), some (.pointer _) => some f
  | _, _, _ => none
/-! slots -/
noncomputable def nT (f : FuncId) : Nat := match funT f with
  | some fn => fn.ntmps
  | none => 0
noncomputable def dstOk (N : Nat) (o : Oper) : Bool := match o.dst with
  | some d => Nat.blt d N
  | none => true
noncomputable def codeOk (N : Nat) : Code → Bool
  | .region _ ops _ => ops.toList.all (dstOk N)
  | .seq a b => codeOk N a && codeOk N b
  | .cond _ a b => codeOk N a && codeOk N b
  | .block _ b => codeOk N b
  | .loop b => codeOk N b
  | .rangeFunc _ ps a b => ps.toList.all (fun p => Nat.blt p N) && (codeOk N a && codeOk N b)
  | _ => true
/-! operands -/
noncomputable def ev (x : Operand) (l : Env) : Option AV := match x with
  | .tmp t => l.get t
  | .const v => ofC v
  | .func f => some (.s (.fn (.func f) [] []))
  | .global _ => none
noncomputable def evs : List Operand → Env → Option (List AV)
  | [], _ => some []
  | x :: r, l => oget (ev x l) fun a => oget (evs r l) fun b => some (a :: b)
noncomputable def cellsOf : AV → Option (List SV)
  | .s x => some [x]
  | .agg l => some l
  | _ => none
noncomputable def toTV : AV → Option TV
  | .s x => some (.s x)
  | .agg l => some (.agg l)
  | _ => none
noncomputable def ofTV : TV → AV
  | .s x => .s x
  | .agg l => .agg l
/-! memory -/
/-- n cells at a place. -/
noncomputable def rd (h : Hp) (id off n : Nat) : Option (List SV) := oget (h.get id) fun o => match o with
  | .brow m x => if Nat.ble (off + n) m then some (unpB n (x / 256 ^ (m - off - n)) []) else none
  | .cells _ cs => ltake n (ldrop cs off)
  | .row _ _ cs => ltake n (ldrop cs off)
  | _ => none
noncomputable def wr (h : Hp) (id off : Nat) (vs : List SV) : Option Hp := oget (h.get id) fun o => match o with
  | .cells E cs => oget (lput vs off cs) fun cs' => some (h.set (.cells E cs') id)
  | .row E sz cs => oget (lput vs off cs) fun cs' => some (h.set (.row E sz cs') id)
  | _ => none
noncomputable def srv (n : Nat) (x : Option AV) : SR := match x with
  | some v => .v v
  | none => .bad n
noncomputable def oLoad (T : TypeId) (h : Hp) : AV → SR
  | .s (.ptr id off) => match tagg T with
    | some n => srv 1 ((rd h id off n).map .agg)
    | none => match tplain T with
      | true => srv 2 (oget (rd h id off 1) fun l => match l with | x :: _ => some (.s x) | [] => none)
      | false => .bad 148
  | _ => .bad 3
noncomputable def storeV (T : TypeId) (h : Hp) (id off : Nat) (vs : List SV) : Option Hp := match tsz T with
  | some n => match Nat.beq vs.length n with
    | true => wr h id off vs
    | false => none
  | none => none
noncomputable def oStore (T : TypeId) (h : Hp) (nx : Nat) (p v : AV) : SR := match p with
  | .s (.ptr id off) => match oget (cellsOf v) (storeV T h id off) with
    | some h' => .m .und h' nx
    | none => .bad 4
  | _ => .bad 5
noncomputable def oAlloc (E : TypeId) (h : Hp) (nx : Nat) : SR := match tzero E with
  | some z => .m (.s (.ptr nx 0)) (h.set (.cells E z) nx) (nx + 1)
  | none => .bad 6
noncomputable def oBox (E : TypeId) (h : Hp) (nx : Nat) (v : AV) : SR := match cellsOf v with
  | some z => .m (.s (.ptr nx 0)) (h.set (.cells E z) nx) (nx + 1)
  | none => .bad 7
noncomputable def fill1 (vs cs : List SV) (p : Nat × Nat) : Option (List SV) := match Nat.beq vs.length p.2 with
  | true => lput vs p.1 cs
  | false => none
noncomputable def fillAt (pl : Nat → Option (Nat × Nat)) : List (Nat × AV) → List SV → Option (List SV)
  | [], cs => some cs
  | (i, v) :: r, cs => oget (pl i) fun p => oget (cellsOf v) fun vs => oget (fill1 vs cs p) (fillAt pl r)
noncomputable def tplace (T : TypeId) (i : Nat) : Option (Nat × Nat) := oget (tfld T i) fun p => (tsz p.2).map fun n => (p.1, n)
noncomputable def oBuild (T : TypeId) (ps : List (Nat × AV)) : SR := match tarr T with
  | some (_, _, sz) => srv 8 (oget (tzero T) fun z => (fillAt (fun i => some (i * sz, sz)) ps z).map .agg)
  | none => match undT T with
    | some (.struct _) => srv 9 (oget (tzero T) fun z => (fillAt (tplace T) ps z).map .agg)
    | _ => .bad 168
noncomputable def natOf : AV → Option Nat
  | .s (.int _ (.ofNat n)) => some n
  | _ => none
noncomputable def oBuildSlice (T : TypeId) (n : Nat) (ps : List (Nat × AV)) (h : Hp) (nx : Nat) : SR := match tel T with
  | some (E, sz) => match tzero E with
    | some z => match Nat.beq z.length sz && Nat.ble (n * sz) 16777216 with
      | true => match fillAt (fun i => some (i * sz, sz)) ps (lreps z n) with
        | some cs => .m (.s (.slc nx 0 n (.k n))) (h.set (.cells E cs) nx) (nx + 1)
        | none => .bad 10
      | false => .bad 187
    | none => .bad 188
  | none => .bad 11
noncomputable def oMakeSlice (T : TypeId) (h : Hp) (nx : Nat) (a b : AV) : SR := match natOf a with
  | some n => match natOf b with
    | some c => match tel T with
      | some (E, sz) => match tzero E with
        | some z => match tbytes E with
          | some q => match Nat.beq z.length sz && (Nat.ble n c && (Nat.ble c 65536 && Nat.ble (q * c) 281474976710656)) with
            | true => .m (.s (.slc nx 0 n (.k c))) (h.set (.cells E (lreps z c)) nx) (nx + 1)
            | false => .bad 12
          | none => .bad 189
        | none => .bad 13
      | none => .bad 14
    | none => .bad 190
  | none => .bad 15
/-! whole numbers -/
noncomputable def inK (k : IntKind) (n : Int) : Bool := match k.signed, n with
  | true, .ofNat m => Nat.blt m (2 ^ (k.bits - 1))
  | true, .negSucc m => Nat.blt m (2 ^ (k.bits - 1))
  | false, .ofNat m => Nat.blt m (2 ^ k.bits)
  | false, .negSucc _ => false
noncomputable def okI (k : IntKind) (n : Int) : Option AV := if inK k n then some (.s (.int k n)) else none
noncomputable def ilt (a b : Int) : Bool := match a, b with
  | .ofNat m, .ofNat n => Nat.blt m n
  | .ofNat _, .negSucc _ => false
  | .negSucc _, .ofNat _ => true
  | .negSucc m, .negSucc n => Nat.blt n m
noncomputable def ieq (a b : Int) : Bool := match a, b with
  | .ofNat m, .ofNat n => Nat.beq m n
  | .negSucc m, .negSucc n => Nat.beq m n
  | _, _ => false
noncomputable def bv (b : Bool) : Option AV := some (.s (.bool b))
noncomputable def intOp (k : IntKind) (a b : Int) : BinOp → Option AV
  | .add => okI k (a + b)
  | .sub => okI k (a - b)
  | .mul => okI k (a * b)
  | .quo => match a, b with
    | .ofNat m, .ofNat (n + 1) => okI k (.ofNat (m / (n + 1)))
    | _, _ => none
  | .rem => match a, b with
    | .ofNat m, .ofNat (n + 1) => okI k (.ofNat (m % (n + 1)))
    | _, _ => none
  | .and => some (.s (.int k (k.wrap (BitVec.ofInt k.bits a &&& BitVec.ofInt k.bits b).toNat)))
  | .or => some (.s (.int k (k.wrap (BitVec.ofInt k.bits a ||| BitVec.ofInt k.bits b).toNat)))
  | .xor => some (.s (.int k (k.wrap (BitVec.ofInt k.bits a ^^^ BitVec.ofInt k.bits b).toNat)))
  | .andNot => some (.s (.int k (k.wrap (BitVec.ofInt k.bits a &&& ~~~BitVec.ofInt k.bits b).toNat)))
  | .lss => bv (ilt a b)
  | .leq => bv (!ilt b a)
  | .gtr => bv (ilt b a)
  | .geq => bv (!ilt a b)
  | .eql => bv (ieq a b)
  | .neq => bv (!ieq a b)
  | _ => none
noncomputable def shOp (k : IntKind) (a b : Int) : BinOp → Option AV
  | .shl => match b with
    | .ofNat n => some (.s (.int k (k.wrap (a * 2 ^ (min n k.bits)))))
    | .negSucc _ => none
  | .shr => match a, b with
    | .ofNat m, .ofNat n => some (.s (.int k (.ofNat (m / 2 ^ (min n k.bits)))))
    | _, _ => none
  | _ => none
noncomputable def keq : IntKind → IntKind → Bool := fun a b => decide (a = b)
/-- Are two plain cells the same? -/
noncomputable def seq : SV → SV → Option Bool
  | .int k a, .int k' b => if keq k k' then some (ieq a b) else none
  | .bool a, .bool b => some (a == b)
  | .str n x, .str m y => some (Nat.beq n m && Nat.beq x y)
  | _, _ => none
noncomputable def ifK (k n : Nat) (b : Bool) : Option Bool := match Nat.beq k n with
  | true => some b
  | false => none
/-- Is it nil? (the other one is the literal nil; by the kind of type) -/
noncomputable def isNil (k : Nat) (c : Bool) : SV → SV → Option Bool
  | .ptr _ _, .nilp => ifK k 2 false
  | .nilp, .nilp => ifK k 2 true
  | .slc _ _ _ _, .nils => ifK k 3 false
  | .nils, .nils => ifK k 3 true
  | .fn _ _ _, .nilf => ifK k 4 false
  | .nilf, .nilf => ifK k 4 true
  | .ifc _ _ _, .nili => ifK k 5 false
  | .nili, .nili => match c with
    | true => ifK k 5 true
    | false => none
  | .bool a, .bool b => ifK k 1 (a == b)
  | _, _ => none
noncomputable def cmp1 (s t : SV) (k : Option Bool) : Option Bool := match seq s t with
  | some b => match k with
    | some r => some (b && r)
    | none => none
  | none => none
noncomputable def fld1 (k : TypeDesc) (s : SV) : Bool := match k, s with
  | .int _, .int _ _ => true
  | .bool, .bool _ => true
  | .string, .str _ _ => true
  | _, _ => false
noncomputable def isU8 (E : TypeId) : Bool := match undT E with
  | some (.int .u8) => true
  | _ => false
/-- The fields of a struct, one behind the other: are their cells the same? (sub: of a struct in it) -/
noncomputable def eqFs (sub : TypeId → List SV → List SV → Option Bool) : List Field → Nat → List SV → List SV → Option Bool
  | [], _, xs, ys => match xs, ys with
    | [], [] => some true
    | _, _ => none
  | f :: fs, o, xs, ys => match decide (f.name = "_") with
    | true => none
    | false => match Nat.beq f.offset o with
      | false => none
      | true => match undT f.type with
        | some (.struct _) => oget (tagg f.type) fun n => oget (ltake n xs) fun us => oget (ltake n ys) fun vs => match sub f.type us vs with
          | some b => match eqFs sub fs (o + n) (ldrop xs n) (ldrop ys n) with
            | some r => some (b && r)
            | none => none
          | none => none
        | some (.array n e) => match isU8 e, tarr f.type, tagg f.type with
          | true, some (_, _, 1), some m => match Nat.beq m n with
            | true => oget (ltake n xs) fun us => oget (ltake n ys) fun vs => oget (packB us 0) fun p => oget (packB vs 0) fun q => match eqFs sub fs (o + n) (ldrop xs n) (ldrop ys n) with
              | some r => some (Nat.beq p q && r)
              | none => none
            | false => none
          | _, _, _ => none
        | some k => match xs with
          | [] => none
          | s :: xs => match ys with
            | [] => none
            | t :: ys => match fld1 k s && fld1 k t with
              | true => cmp1 s t (eqFs sub fs (o + 1) xs ys)
              | false => none
        | none => none
noncomputable def eqStB (sub : TypeId → List SV → List SV → Option Bool) (T : TypeId) (xs ys : List SV) : Option Bool := match undT T with
  | some (.struct fs) => match P.stoodInHeld T with
    | true => none
    | false => eqFs sub fs.toList 0 xs ys
  | _ => none
noncomputable def eqS0 (_ : TypeId) (_ _ : List SV) : Option Bool := none
noncomputable def eqSt (d : Nat) : TypeId → List SV → List SV → Option Bool := Nat.rec (motive := fun _ => TypeId → List SV → List SV → Option Bool) eqS0 (fun _ ih => eqStB ih) d
noncomputable def eqAgg (T : TypeId) (xs ys : List SV) : Option Bool := match undT T with
  | some (.struct _) => match P.eqGuardType P.depth T with
    | true => none
    | false => eqSt 5 T xs ys
  | some (.array n e) => match isU8 e, tarr T with
    | true, some (_, _, 1) => match Nat.beq xs.length n && Nat.beq ys.length n with
      | true => oget (packB xs 0) fun p => (packB ys 0).map fun q => Nat.beq p q
      | false => none
    | _, _ => none
  | _ => none
noncomputable def kindT (T : TypeId) : Nat := match undT T with
  | some .bool => 1
  | some (.pointer _) => 2
  | some (.slice _) => 3
  | some (.func _ _ _) => 4
  | some (.interface _) => 5
  | _ => 0
noncomputable def eqOp (c : Bool) (T : TypeId) (a b : AV) : Option Bool := match a, b with
  | .s a, .s b => isNil (kindT T) c a b
  | .agg xs, .agg ys => eqAgg T xs ys
  | _, _ => none
noncomputable def strOp (n x m y : Nat) : BinOp → Option AV
  | .add => match Nat.ble (n + m) 1000000 with
    | true => some (.s (.str (n + m) (x * 256 ^ m + y % 256 ^ m)))
    | false => none
  | .eql => bv (Nat.beq n m && Nat.beq x y)
  | .neq => bv (!(Nat.beq n m && Nat.beq x y))
  | _ => none
noncomputable def intB (op : BinOp) (k : IntKind) (m : Int) (k' : IntKind) (n : Int) : Option AV := match op with
  | .shl => shOp k m n .shl
  | .shr => shOp k m n .shr
  | op => match keq k k' with
    | true => intOp k m n op
    | false => none
noncomputable def eqB (c : Bool) (T : TypeId) (a b : AV) : BinOp → Option AV
  | .eql => (eqOp c T a b).map fun r => .s (.bool r)
  | .neq => (eqOp c T a b).map fun r => .s (.bool (!r))
  | _ => none
noncomputable def binE (c : Bool) (op : BinOp) (T : TypeId) (a b : AV) : Option AV := match a with
  | .s (.int k m) => match b with
    | .s (.int k' n) => intB op k m k' n
    | _ => none
  | .s (.str n x) => match b with
    | .s (.str m y) => strOp n x m y op
    | _ => none
  | _ => eqB c T a b op
noncomputable def unE (op : UnOp) (a : AV) : Option AV := match op with
  | .not => match a with
    | .s (.bool b) => bv (!b)
    | _ => none
  | _ => none
/-! slices -/
noncomputable def oIndexAddr (T : TypeId) (a i : AV) : SR := match natOf i with
  | some j => match a with
    | .s (.slc id off n _) => match tel T with
      | some (_, sz) => if Nat.blt j n then .v (.s (.ptr id (off + j * sz))) else .bad 22
      | none => .bad 23
    | .s (.ptr id off) => match tarr T with
      | some (n, _, sz) => if Nat.blt j n then .v (.s (.ptr id (off + j * sz))) else .bad 24
      | none => .bad 25
    | _ => .bad 26
  | none => .bad 27
noncomputable def oIndex (T : TypeId) (a i : AV) : SR := match natOf i with
  | some j => match a with
    | .s (.str n x) => match undT T with
      | some .string => match Nat.blt j n with
        | true => .v (.s (.int .u8 (.ofNat (x / 256 ^ (n - 1 - j) % 256))))
        | false => .bad 28
      | _ => .bad 151
    | .agg cs => match tarr T with
      | some (n, E, sz) => match Nat.blt j n with
        | true => match tagg E with
          | some m => match Nat.beq m sz with
            | true => srv 29 ((ltake sz (ldrop cs (j * sz))).map .agg)
            | false => .bad 152
          | none => match tplain E && Nat.beq sz 1 with
            | true => srv 30 ((lget cs j).map .s)
            | false => .bad 153
        | false => .bad 31
      | none => .bad 32
    | _ => .bad 33
  | none => .bad 34
noncomputable def ble3 (a b c d : Nat) : Bool := match Nat.ble a b with
  | true => match Nat.ble b c with
    | true => Nat.ble c d
    | false => false
  | false => false
noncomputable def sliceStr (n x : Nat) (lo hi : Option Nat) : SR := match ble3 (lo.getD 0) (hi.getD n) n n with
  | true => .v (.s (.str (hi.getD n - lo.getD 0) (x / 256 ^ (n - hi.getD n) % 256 ^ (hi.getD n - lo.getD 0))))
  | false => .bad 35
noncomputable def sliceArr (id off n sz : Nat) (lo hi mx : Option Nat) : SR := match ble3 (lo.getD 0) (hi.getD n) (mx.getD n) n with
  | true => .v (.s (.slc id (match Nat.beq (mx.getD n) (lo.getD 0) with | true => off | false => off + lo.getD 0 * sz) (hi.getD n - lo.getD 0) (.k (mx.getD n - lo.getD 0))))
  | false => .bad 38
/-- A slice of one whose capacity isn't known: of what is known of it. -/
noncomputable def sliceT (id off n d sz : Nat) (h : Hp) (lo hi mx : Option Nat) : SR := match mx with
  | some m => match ble3 (lo.getD 0) (hi.getD n) m n with
    | true => .v (.s (.slc id (match Nat.beq m (lo.getD 0) with | true => off | false => off + lo.getD 0 * sz) (hi.getD n - lo.getD 0) (.k (m - lo.getD 0))))
    | false => .bad 42
  | none => match lo.getD 0 with
    | 0 => match Nat.ble (hi.getD n) n with
      | true => .v (.s (.slc id off (hi.getD n) (.t d)))
      | false => .bad 45
    | l + 1 => match ble3 (l + 1) (hi.getD n) n n && Nat.blt (l + 1) n with
      | true => .v (.s (.slc id (off + (l + 1) * sz) (hi.getD n - (l + 1)) (.t (d + (l + 1)))))
      | false => .bad 46
noncomputable def sliceS (T : TypeId) (h : Hp) (a : AV) (lo hi mx : Option Nat) : SR := match a with
  | .s (.str n x) => match undT T with
    | some .string => match mx with
      | none => sliceStr n x lo hi
      | some _ => .bad 36
    | _ => .bad 154
  | .s .nils => match tel T with
    | some _ => match lo.getD 0, hi.getD 0, mx.getD 0 with
      | 0, 0, 0 => .v (.s .nils)
      | _, _, _ => .bad 37
    | none => .bad 155
  | .s (.ptr id off) => match tarr T with
    | some (n, _, sz) => sliceArr id off n sz lo hi mx
    | none => .bad 40
  | .s (.slc id off n c) => match tel T with
    | some (_, sz) => match c with
      | .k cap => match ble3 (lo.getD 0) (hi.getD n) (mx.getD cap) cap with
        | true => .v (.s (.slc id (match Nat.beq (mx.getD cap) (lo.getD 0) with | true => off | false => off + lo.getD 0 * sz) (hi.getD n - lo.getD 0) (.k (mx.getD cap - lo.getD 0))))
        | false => .bad 41
      | .t d => sliceT id off n d sz h lo hi mx
    | none => .bad 48
  | _ => .bad 49
/-- The bound, where there is one. -/
noncomputable def natO : Option AV → Option (Option Nat)
  | none => some none
  | some a => (natOf a).map some
noncomputable def mxOk : Option Nat → Option Nat → Bool
  | some _, none => false
  | _, _ => true
noncomputable def oSlice (T : TypeId) (h : Hp) (a : AV) (lo hi mx : Option AV) : SR := match natO lo with
  | none => .bad 43
  | some lo => match natO hi with
    | none => .bad 47
    | some hi => match natO mx with
      | none => .bad 39
      | some mx => match mxOk mx hi with
        | true => sliceS T h a lo hi mx
        | false => .bad 166
/-- What is put behind. -/
noncomputable def newsOf (sz : Nat) (h : Hp) : AV → Option (Nat × List SV)
  | .s (.slc id off n _) => (rd h id off (n * sz)).map fun l => (n, l)
  | .s .nils => some (0, [])
  | .s (.pby n x) => match Nat.beq sz 1 with
    | true => some (n, unpB n x [])
    | false => none
  | .s (.str n x) => match Nat.beq sz 1 with
    | true => some (n, unpB n x [])
    | false => none
  | _ => none
noncomputable def bytesOf (h : Hp) : AV → Option (Nat × Nat)
  | .s (.pby n x) => some (n, x % 256 ^ n)
  | .s (.str n x) => some (n, x)
  | .s .nils => some (0, 0)
  | .s (.slc id off n _) => oget (h.get id) fun o => match o with
    | .brow m x => if Nat.ble (off + n) m then some (n, x / 256 ^ (m - off - n) % 256 ^ n) else none
    | .cells _ cs => oget (ltake n (ldrop cs off)) fun l => (packB l 0).map fun x => (n, x)
    | _ => none
  | _ => none
noncomputable def isStrT (T : TypeId) : Bool := match undT T with
  | some .string => true
  | _ => false
noncomputable def wrapI (k : IntKind) (n : Int) : Int := match inK k n with
  | true => n
  | false => k.wrap n
noncomputable def isBytesT (T : TypeId) : Bool := match undT T with
  | some (.slice E) => isU8 E
  | _ => false
noncomputable def oConvI (S T : TypeId) (n : Int) : SR := match undT S with
  | some _ => match undT T with
    | some (.int k) => .v (.s (.int k (wrapI k n)))
    | _ => .bad 16
  | none => .bad 197
noncomputable def oConvS (S T : TypeId) (h : Hp) (nx : Nat) (a : AV) (n x : Nat) : SR := match undT S with
  | some .string => match undT T with
    | some .string => .v a
    | some (.slice E) => match Nat.beq E tyByte && (isU8 E && Nat.ble n 1000000) with
      | true => .m (.s (.slc nx 0 n (.t 0))) (h.set (.brow n x) nx) (nx + 1)
      | false => .bad 198
    | _ => .bad 17
  | _ => .bad 199
noncomputable def oConvB (S T : TypeId) (h : Hp) (a : AV) : SR := match isBytesT S && isStrT T with
  | true => srv 19 ((bytesOf h a).map fun b => .s (.str b.1 (b.2 % 256 ^ b.1)))
  | false => .bad 20
noncomputable def oConv (S T : TypeId) (h : Hp) (nx : Nat) (a : AV) : SR := match a with
  | .s (.int _ n) => oConvI S T n
  | .s (.str n x) => oConvS S T h nx a n x
  | a => oConvB S T h a
noncomputable def gv (b : Bool) (n : Nat) (v : AV) : SR := match b with
  | true => .v v
  | false => .bad n
noncomputable def bcat (a b : Nat × Nat) : AO := .brow (a.1 + b.1) (a.2 * 256 ^ b.1 + b.2)
noncomputable def isSlV : AV → Bool
  | .s .nils => true
  | .s (.slc _ _ _ _) => true
  | _ => false
/-- Bytes put behind bytes. -/
noncomputable def oAppendB (h : Hp) (nx : Nat) (s x : AV) : SR := match bytesOf h s with
  | none => .bad 146
  | some a => match bytesOf h x with
    | none => .bad 140
    | some b => match Nat.beq b.1 0 with
      | true => gv (isSlV s) 203 s
      | false => match Nat.ble (a.1 + b.1) 1000000 with
        | false => .bad 141
        | true => match s with
          | .s .nils => .m (.s (.slc nx 0 (a.1 + b.1) (.t 0))) (h.set (bcat a b) nx) (nx + 1)
          | .s (.slc id off n (.k cap)) => match Nat.blt cap (a.1 + b.1) with
            | true => .m (.s (.slc nx 0 (a.1 + b.1) (.t 0))) (h.set (bcat a b) nx) (nx + 1)
            | false => .bad 142
          | .s (.slc id off n (.t d)) => match h.get id with
            | some (.brow m _) => match Nat.beq m n && (Nat.beq off 0 && Nat.beq d 0) with
              | true => .m (.s (.slc nx 0 (a.1 + b.1) (.t 0))) ((h.del id).set (bcat a b) nx) (nx + 1)
              | false => .bad 143
            | _ => .bad 144
          | _ => .bad 145
noncomputable def elemOk (E sz : Nat) : Bool := match tzero E with
  | some z => match tbytes E with
    | some q => Nat.beq z.length sz && (Nat.blt 0 sz && Nat.ble q 1000000)
    | none => false
  | none => false
noncomputable def oAppendR (E sz : Nat) (m : Nat) (new : List SV) (h : Hp) (nx : Nat) (s : AV) : SR := match elemOk E sz with
  | false => .bad 200
  | true => match s with
    | .s .nils => match Nat.beq m 0 with
      | true => .v (.s .nils)
      | false => match Nat.ble m 1000000 with
        | true => .m (.s (.slc nx 0 m (.t 0))) (h.set (.row E sz new) nx) (nx + 1)
        | false => .bad 201
    | .s (.slc id off n c) => match Nat.beq m 0 with
      | true => .v s
      | false => match Nat.ble (n + m) 1000000 with
        | false => .bad 56
        | true => match rd h id off (n * sz) with
          | none => .bad 51
          | some old => match c with
            | .k cap => match Nat.blt cap (n + m) with
              | true => .m (.s (.slc nx 0 (n + m) (.t 0))) (h.set (.row E sz (old ++ new)) nx) (nx + 1)
              | false => .bad 50
            | .t d => match h.get id with
              | some (.row E' sz' cs) => match Nat.beq E E' && (Nat.beq sz sz' && (Nat.beq cs.length (n * sz) && (Nat.beq off 0 && Nat.beq d 0))) with
                | true => .m (.s (.slc nx 0 (n + m) (.t 0))) ((h.del id).set (.row E sz (old ++ new)) nx) (nx + 1)
                | false => .bad 54
              | _ => .bad 55
    | _ => .bad 57
noncomputable def srcB (X : TypeId) : Bool := match undT X with
  | some (.slice _) => true
  | some .string => true
  | _ => false
noncomputable def oAppendN (E sz : Nat) (h : Hp) (nx : Nat) (s : AV) : Option (Nat × List SV) → SR
  | some (m, new) => oAppendR E sz m new h nx s
  | none => .bad 58
noncomputable def oAppend (T X : TypeId) (h : Hp) (nx : Nat) (s x : AV) : SR := match tel T with
  | some (E, sz) => match srcB X with
    | true => match Nat.beq E tyByte && (Nat.beq sz 1 && elemOk E sz) with
      | true => oAppendB h nx s x
      | false => oAppendN E sz h nx s (newsOf sz h x)
    | false => .bad 202
  | none => .bad 59
noncomputable def oCopy (T : TypeId) (h : Hp) (nx : Nat) (d x : AV) : SR := match tel T with
  | some (E, sz) => match newsOf sz h x with
    | some (m, new) => match d with
      | .s .nils => .v (.s (.int .i64 0))
      | .s (.slc id off n _) => match oget (ltake (Nat.min m n * sz) new) (wr h id off) with
        | some h' => .m (.s (.int .i64 (.ofNat (Nat.min m n)))) h' nx
        | none => .bad 60
      | _ => .bad 61
    | none => .bad 62
  | none => .bad 63
/-! maps -/
/-- Are two keys the same? -/
noncomputable def keyEq (kd : TypeDesc) (kt : TypeId) (a b : TV) : Option Bool := match a with
  | .s x => match b with
    | .s y => match fld1 kd x with
      | true => match fld1 kd y with
        | true => seq x y
        | false => none
      | false => none
    | .agg _ => none
  | .agg xs => match b with
    | .agg ys => eqAgg kt xs ys
    | .s _ => none
/-- Is it a key of the type's form? -/
noncomputable def keyV (kt : TypeId) (k : TV) : Bool := match tagg kt with
  | some n => match k with
    | .agg xs => Nat.beq xs.length n
    | .s _ => false
  | none => true
noncomputable def mfind (eq : TV → Option Bool) : List (TV × TV × Nat) → Nat → Option (Option (Nat × TV × Nat))
  | [], _ => some none
  | (k, v, b) :: r, i => match eq k with
    | some true => some (some (i, v, b))
    | some false => mfind eq r (i + 1)
    | none => none
noncomputable def mFind (kt : TypeId) (k : TV) (es : List (TV × TV × Nat)) : Option (Option (Nat × TV × Nat)) := match undT kt with
  | some kd => match keyV kt k with
    | true => mfind (keyEq kd kt k) es 0
    | false => none
  | none => none
noncomputable def mset (k v : TV) : Nat → List (TV × TV × Nat) → List (TV × TV × Nat)
  | _, [] => []
  | n, (k', v', b) :: r => match n with
    | 0 => (k, v, b) :: r
    | m + 1 => (k', v', b) :: mset k v m r
noncomputable def mdel : Nat → List (TV × TV × Nat) → List (TV × TV × Nat)
  | _, [] => []
  | n, e :: r => match n with
    | 0 => r
    | m + 1 => e :: mdel m r
noncomputable def mstamp (v : TV) (s : Nat) : List (TV × TV × Nat) → Option (List (TV × TV × Nat))
  | [] => none
  | (k', v', b) :: r => match Nat.beq b s with
    | true => some ((k', v, b) :: r)
    | false => (mstamp v s r).map ((k', v', b) :: ·)
noncomputable def zeroTV (T : TypeId) : Option TV := oget (infoT T) fun i => oget i.zero fun z => match z with
  | .agg cs => (ofSs cs.toList).map .agg
  | v => (ofS v).map .s
noncomputable def mapOf (h : Hp) : AV → Option (List (TV × TV × Nat) × Nat)
  | .s (.map id) => oget (h.get id) fun o => match o with
    | .map es c => some (es, c)
    | _ => none
  | .s .nilm => some ([], 0)
  | _ => none
noncomputable def zeroOk (ok : Bool) (et : TypeId) : SR := match zeroTV et with
  | some z => .v (match ok with | true => .tup [z, .s (.bool false)] | false => ofTV z)
  | none => .bad 64
noncomputable def oLookup (T : TypeId) (h : Hp) (ok : Bool) (m k : AV) : SR := match tmap T with
  | some (kt, et) => match mapOf h m with
    | some (es, _) => match toTV k with
      | some k => match mFind kt k es with
        | some (some (_, v, _)) => .v (match ok with | true => .tup [v, .s (.bool true)] | false => ofTV v)
        | some none => zeroOk ok et
        | none => .bad 170
      | none => .bad 171
    | none => .bad 172
  | none => .bad 65
noncomputable def oMapUpdate (T : TypeId) (h : Hp) (nx : Nat) (m k v : AV) : SR := match m with
  | .s (.map id) => match mapOf h m with
    | some (es, c) => match tmap T with
      | some (kt, _) => match toTV k with
        | some k => match toTV v with
          | some v => match mFind kt k es with
            | some (some (i, _, _)) => .m .und (h.set (.map (mset k v i es) c) id) nx
            | some none => .m .und (h.set (.map (es ++ [(k, v, c)]) (c + 1)) id) nx
            | none => .bad 173
          | none => .bad 174
        | none => .bad 175
      | none => .bad 176
    | none => .bad 177
  | _ => .bad 66
noncomputable def oMapEntry (T : TypeId) (h : Hp) (nx : Nat) (m k : AV) : SR := match m with
  | .s (.map id) => match mapOf h m with
    | some (es, c) => match tmap T with
      | some (kt, et) => match toTV k with
        | some k => match mFind kt k es with
          | some (some (_, v, b)) => .v (.tup [v, .s (.int .i64 (.ofNat b))])
          | some none => match zeroTV et with
            | some z => .m (.tup [z, .s (.int .i64 (.ofNat c))]) (h.set (.map (es ++ [(k, z, c)]) (c + 1)) id) nx
            | none => .bad 67
          | none => .bad 178
        | none => .bad 179
      | none => .bad 180
    | none => .bad 181
  | _ => .bad 68
noncomputable def oEntryStore (h : Hp) (nx : Nat) (m s v : AV) : SR := match m, mapOf h m, natOf s, toTV v with
  | .s (.map id), some (es, c), some s, some v => match mstamp v s es with
    | some es' => .m .und (h.set (.map es' c) id) nx
    | none => .bad 69
  | _, _, _, _ => .bad 70
noncomputable def oDelete (T : TypeId) (h : Hp) (nx : Nat) (m k : AV) : SR := match tmap T with
  | some (kt, _) => match toTV k with
    | some k => match m with
      | .s (.map id) => match mapOf h m with
        | some (es, c) => match mFind kt k es with
          | some (some (i, _, _)) => .m (.tup []) (h.set (.map (mdel i es) c) id) nx
          | some none => .v (.tup [])
          | none => .bad 182
        | none => .bad 183
      | .s .nilm => match mFind kt k [] with
        | some _ => .v (.tup [])
        | none => .bad 184
      | _ => .bad 71
    | none => .bad 185
  | none => .bad 186
noncomputable def oClearS (T : TypeId) (h : Hp) (nx id off n : Nat) : SR := match tel T with
  | some (E, sz) => match tzero E with
    | some z => match Nat.beq z.length sz with
      | true => match wr h id off (lreps z n) with
        | some h' => .m (.tup []) h' nx
        | none => .bad 73
      | false => .bad 204
    | none => .bad 205
  | none => .bad 74
noncomputable def oClear (T : TypeId) (h : Hp) (nx : Nat) (a : AV) : SR := match undT T with
  | none => .bad 206
  | some _ => match a with
    | .s .nilm => .v (.tup [])
    | .s .nils => .v (.tup [])
    | .s (.map id) => match mapOf h a with
      | some (_, c) => .m (.tup []) (h.set (.map [] c) id) nx
      | none => .bad 72
    | .s (.slc id off n _) => oClearS T h nx id off n
    | _ => .bad 75
noncomputable def isMapT (T : TypeId) : Bool := match tmap T with
  | some _ => true
  | none => false
noncomputable def oRangeM (T : TypeId) (h : Hp) (nx : Nat) (a : AV) : SR := match isMapT T with
  | true => match a with
    | .s .nilm => .m (.s (.ptr nx 0)) (h.set (.iter none 0 [] 0) nx) (nx + 1)
    | .s (.map id) => match mapOf h a with
      | some (_, c) => .m (.s (.ptr nx 0)) (h.set (.iter (some id) c [] c) nx) (nx + 1)
      | none => .bad 76
    | _ => .bad 77
  | false => .bad 191
noncomputable def oRange (T : TypeId) (h : Hp) (nx : Nat) (a : AV) : SR := match a with
  | .s (.str n x) => match isStrT T with
    | true => .m (.s (.ptr nx 0)) (h.set (.siter n x 0) nx) (nx + 1)
    | false => .bad 193
  | a => oRangeM T h nx a
noncomputable def nhas (s : Nat) : List Nat → Bool
  | [] => false
  | a :: r => match Nat.beq a s with
    | true => true
    | false => nhas s r
noncomputable def mleft (seen : List Nat) : List (TV × TV × Nat) → List (TV × TV × Nat)
  | [] => []
  | (k, v, b) :: r => match nhas b seen with
    | true => mleft seen r
    | false => (k, v, b) :: mleft seen r
noncomputable def mold (since : Nat) : List (TV × TV × Nat) → Bool
  | [] => true
  | (_, _, b) :: r => Nat.blt b since && mold since r
noncomputable def nextF (h : Hp) (it m since : Nat) (seen : List Nat) (c : Nat) (e : TV × TV × Nat) : AV × Hp := (.tup [.s (.bool true), e.1, e.2.1], h.set (.iter (some m) since (e.2.2 :: seen) c) it)
noncomputable def oNextM (h : Hp) (nx it m since : Nat) (seen : List Nat) (c : Nat) (l : List (TV × TV × Nat)) : SR := match l with
  | [] => .m (.tup [.s (.bool false)]) (h.del it) nx
  | e :: r => .fork ((e :: r).map (nextF h it m since seen c))
noncomputable def nextC (h : Hp) (nx it n x pos c : Nat) : SR := match Nat.blt c 128 with
  | true => .m (.tup [.s (.bool true), .s (.int .i64 (.ofNat pos)), .s (.int .i32 (.ofNat c))]) (h.set (.siter n x (pos + 1)) it) nx
  | false => .bad 194
noncomputable def oNextS (h : Hp) (nx : Nat) (a : AV) : SR := match a with
  | .s (.ptr it 0) => match h.get it with
    | some (.siter n x pos) => match Nat.blt pos n with
      | true => nextC h nx it n x pos (x / 256 ^ (n - 1 - pos) % 256)
      | false => .m (.tup [.s (.bool false)]) (h.del it) nx
    | _ => .bad 195
  | _ => .bad 196
noncomputable def oNext (str : Bool) (h : Hp) (nx : Nat) (a : AV) : SR := match str with
  | true => oNextS h nx a
  | false => match a with
    | .s (.ptr it 0) => match h.get it with
      | some (.iter none _ _ _) => .m (.tup [.s (.bool false)]) (h.del it) nx
      | some (.iter (some m) since seen last) => match h.get m with
        | some (.map es c) => match Nat.ble since last && mold since es with
          | true => oNextM h nx it m since seen c (mleft seen es)
          | false => .bad 78
        | _ => .bad 80
      | _ => .bad 82
    | _ => .bad 83
noncomputable def efind (b : Nat) : List (TV × TV × Nat) → Option (TV × TV)
  | [] => none
  | (k, v, n) :: r => match Nat.beq n b with
    | true => some (k, v)
    | false => efind b r
noncomputable def oEntry (h : Hp) (a : AV) : SR := match a with
  | .s (.ptr it 0) => match h.get it with
    | some (.iter (some m) _ (b :: _) last) => match h.get m with
      | some (.map es c) => match Nat.beq c last with
        | true => match efind b es with
          | some (k, v) => .v (.tup [k, v])
          | none => .bad 84
        | false => .bad 85
      | _ => .bad 86
    | _ => .bad 87
  | _ => .bad 88
/-! calls -/
noncomputable def pvOf : AV → Option PV
  | .s (.ptr a b) => some (.ptr a b)
  | .s (.ifc t a b) => some (.ifc t a b)
  | _ => none
noncomputable def pvsOf : List AV → Option (List PV)
  | [] => some []
  | a :: r => oget (pvOf a) fun x => oget (pvsOf r) fun l => some (x :: l)
noncomputable def ofPV : PV → AV
  | .ptr a b => .s (.ptr a b)
  | .ifc t a b => .s (.ifc t a b)
noncomputable def oMakeFunc (f : Fn) (a b : List AV) : SR := match pvsOf a, pvsOf b with
  | some x, some y => match f with
    | .yield _ => .bad 169
    | f => .v (.s (.fn f x y))
  | _, _ => .bad 89
noncomputable def callF (f : FuncId) (args : List AV) : SR := match funT f with
  | some fn => match fn.body with
    | some _ => .call f args
    | none => .bad 90
  | none => .bad 91
noncomputable def oCallV (args : List AV) (g : AV) : SR := match g with
  | .s (.fn (.func f) a c) => callF f (a.map ofPV ++ (args ++ c.map ofPV))
  | .s (.fn (.yield l) [] _) => .yld l args
  | _ => .bad 92
noncomputable def oInvoke (name : String) (args : List AV) (r : AV) : SR := match r with
  | .s (.ifc t id off) => match tmeth t name with
    | some f => callF f (.s (.ptr id off) :: args)
    | none => .bad 93
  | _ => .bad 94
noncomputable def isSlcT (T : TypeId) : Bool := match tel T with
  | some _ => true
  | none => false
noncomputable def oLen (T : TypeId) (h : Hp) (a : AV) : SR := match a with
  | .s (.str n _) => gv (isStrT T) 156 (.s (.int .i64 (.ofNat n)))
  | .s (.slc _ _ n _) => gv (isSlcT T) 157 (.s (.int .i64 (.ofNat n)))
  | .s (.pby n _) => gv (isSlcT T) 158 (.s (.int .i64 (.ofNat n)))
  | .s .nils => gv (isSlcT T) 159 (.s (.int .i64 (.ofNat 0)))
  | .s .nilm => gv (isMapT T) 160 (.s (.int .i64 (.ofNat 0)))
  | .s (.map _) => match mapOf h a with
    | some (es, _) => gv (isMapT T) 161 (.s (.int .i64 (.ofNat es.length)))
    | none => .bad 95
  | _ => .bad 97
noncomputable def oCap (T : TypeId) (a : AV) : SR := match a with
  | .s (.slc _ _ _ (.k c)) => gv (isSlcT T) 162 (.s (.int .i64 (.ofNat c)))
  | .s .nils => gv (isSlcT T) 163 (.s (.int .i64 (.ofNat 0)))
  | _ => .bad 98
noncomputable def oBuiltin (b : Builtin) (ts : List TypeId) (h : Hp) (nx : Nat) (vs : List AV) : SR := match b, ts, vs with
  | .len, [T], [a] => oLen T h a
  | .cap, [T], [a] => oCap T a
  | .min, _, [.s (.int k a), .s (.int k' b)] => gv (keq k k') 164 (.s (.int k (match ilt a b with | true => a | false => b)))
  | .max, _, [.s (.int k a), .s (.int k' b)] => gv (keq k k') 165 (.s (.int k (match ilt a b with | true => b | false => a)))
  | .append, [T, X], [a, b] => oAppend T X h nx a b
  | .copy, [T, _], [a, b] => oCopy T h nx a b
  | .delete, [T, _], [a, b] => oDelete T h nx a b
  | .clear, [T], [a] => oClear T h nx a
  | _, _, _ => .bad 99
noncomputable def oField (T : TypeId) (i : Nat) (a : AV) : SR := match a, tfld T i with
  | .agg cs, some (off, ft) => match tagg ft with
    | some n => srv 100 ((ltake n (ldrop cs off)).map .agg)
    | none => match tplain ft with
      | true => srv 101 ((lget cs off).map .s)
      | false => .bad 150
  | _, _ => .bad 102
noncomputable def oMakeIface (T : TypeId) (a : AV) : SR := match a with
  | .s (.ptr id off) => match undT T with
    | some (.pointer _) => .v (.s (.ifc T id off))
    | _ => .bad 167
  | _ => .bad 103
noncomputable def on1 (l : Env) (x : Operand) (k : AV → SR) : SR := match ev x l with
  | some a => k a
  | none => .bad 104
noncomputable def on2 (l : Env) (x y : Operand) (k : AV → AV → SR) : SR := match ev x l with
  | some a => match ev y l with
    | some b => k a b
    | none => .bad 105
  | none => .bad 106
noncomputable def on3 (l : Env) (x y z : Operand) (k : AV → AV → AV → SR) : SR := match ev x l with
  | some a => match ev y l with
    | some b => match ev z l with
      | some c => k a b c
      | none => .bad 107
    | none => .bad 108
  | none => .bad 109
noncomputable def evo (x : Option Operand) (l : Env) : Option (Option AV) := match x with
  | none => some none
  | some x => (ev x l).map some
noncomputable def evp : List (Nat × Operand) → Env → Option (List (Nat × AV))
  | [], _ => some []
  | (i, x) :: r, l => oget (ev x l) fun a => oget (evp r l) fun b => some ((i, a) :: b)
noncomputable def oCall (c : Call) (l : Env) (h : Hp) (nx : Nat) : SR := match evs c.args.toList l with
  | none => .bad 110
  | some vs => match c.callee with
    | .value (.func f) => callF f vs
    | .value g => on1 l g (oCallV vs)
    | .invoke r name => on1 l r (oInvoke name vs)
    | .builtin b => oBuiltin b c.argTypes.toList h nx vs
noncomputable def sMove (x : Operand) (l : Env) (_ : Hp) (_ : Nat) : SR := on1 l x .v
noncomputable def sPick (c a b : Operand) (l : Env) (_ : Hp) (_ : Nat) : SR := on1 l c fun v => match v with
  | .s (.bool true) => on1 l a .v
  | .s (.bool false) => on1 l b .v
  | _ => .bad 111
noncomputable def sAlloc (E : TypeId) (_ : Env) (h : Hp) (nx : Nat) : SR := oAlloc E h nx
noncomputable def sBox (E : TypeId) (x : Operand) (l : Env) (h : Hp) (nx : Nat) : SR := on1 l x (oBox E h nx)
noncomputable def sBuild (T : TypeId) (ps : Array (Nat × Operand)) (l : Env) (_ : Hp) (_ : Nat) : SR := match evp ps.toList l with
  | some ps => oBuild T ps
  | none => .bad 112
noncomputable def sBuildSlice (T : TypeId) (n : Nat) (ps : Array (Nat × Operand)) (l : Env) (h : Hp) (nx : Nat) : SR := match evp ps.toList l with
  | some ps => oBuildSlice T n ps h nx
  | none => .bad 113
noncomputable def sInsert (_ : TypeId) (_ _ _ : Operand) (_ : Env) (_ : Hp) (_ : Nat) : SR := .bad 123
noncomputable def sLoad (T : TypeId) (x : Operand) (l : Env) (h : Hp) (_ : Nat) : SR := on1 l x (oLoad T h)
noncomputable def sStore (T : TypeId) (x y : Operand) (l : Env) (h : Hp) (nx : Nat) : SR := on2 l x y (oStore T h nx)
noncomputable def sReady (_ : Nat) (_ : Env) (_ : Hp) (_ : Nat) : SR := .bad 124
noncomputable def sNilCheck (x : Operand) (l : Env) (_ : Hp) (_ : Nat) : SR := on1 l x fun v => match v with
  | .s (.ptr _ _) => .v v
  | .s (.ifc _ _ _) => .v v
  | .s (.fn (.func _) _ _) => .v v
  | .s (.fn (.method name) [.ifc t _ _] _) => match tmeth t name with
    | some _ => .v v
    | none => .bad 147
  | _ => .bad 114
noncomputable def sBin (op : BinOp) (T : TypeId) (x y : Operand) (_ : TypeId) (l : Env) (_ : Hp) (_ : Nat) : SR := on2 l x y fun a b => srv 115 (binE (Region.isConst y) op T a b)
noncomputable def sUn (op : UnOp) (_ : TypeId) (x : Operand) (l : Env) (_ : Hp) (_ : Nat) : SR := on1 l x fun a => srv 116 (unE op a)
noncomputable def sConv (S T : TypeId) (x : Operand) (l : Env) (h : Hp) (nx : Nat) : SR := on1 l x (oConv S T h nx)
noncomputable def sS2a (_ : TypeId) (_ : Operand) (_ : Env) (_ : Hp) (_ : Nat) : SR := .bad 125
noncomputable def sMakeIface (T : TypeId) (x : Operand) (l : Env) (_ : Hp) (_ : Nat) : SR := on1 l x (oMakeIface T)
noncomputable def sMakeFunc (f : Fn) (a b : Array Operand) (l : Env) (_ : Hp) (_ : Nat) : SR := match evs a.toList l, evs b.toList l with
  | some a, some b => oMakeFunc f a b
  | _, _ => .bad 117
noncomputable def sMakeMap (_ : TypeId) (r : Option Operand) (_ : Env) (h : Hp) (nx : Nat) : SR := match r with
  | none => .m (.s (.map nx)) (h.set (.map [] 0) nx) (nx + 1)
  | some _ => .bad 126
noncomputable def sMakeChan (_ : TypeId) (_ : Operand) (_ : Env) (_ : Hp) (_ : Nat) : SR := .bad 127
noncomputable def sMakeSlice (T : TypeId) (x y : Operand) (l : Env) (h : Hp) (nx : Nat) : SR := on2 l x y (oMakeSlice T h nx)
noncomputable def sSlice (T : TypeId) (x : Operand) (a b c : Option Operand) (l : Env) (h : Hp) (_ : Nat) : SR := on1 l x fun v => match evo a l, evo b l, evo c l with
  | some a, some b, some c => oSlice T h v a b c
  | _, _, _ => .bad 118
noncomputable def sFieldAddr (T : TypeId) (x : Operand) (i : Nat) (l : Env) (_ : Hp) (_ : Nat) : SR := on1 l x fun v => match v with
  | .s (.ptr id off) => match tfo T i with
    | some o => .v (.s (.ptr id (off + o)))
    | none => .bad 119
  | _ => .bad 149
noncomputable def sField (T : TypeId) (x : Operand) (i : Nat) (l : Env) (_ : Hp) (_ : Nat) : SR := on1 l x (oField T i)
noncomputable def sIndexAddr (T : TypeId) (x y : Operand) (l : Env) (_ : Hp) (_ : Nat) : SR := on2 l x y (oIndexAddr T)
noncomputable def sIndex (T : TypeId) (x y : Operand) (l : Env) (_ : Hp) (_ : Nat) : SR := on2 l x y (oIndex T)
noncomputable def sLookup (T : TypeId) (x y : Operand) (ok : Bool) (l : Env) (h : Hp) (_ : Nat) : SR := on2 l x y (oLookup T h ok)
noncomputable def sMapUpdate (T : TypeId) (x y z : Operand) (l : Env) (h : Hp) (nx : Nat) : SR := on3 l x y z (oMapUpdate T h nx)
noncomputable def sMapEntry (T : TypeId) (x y : Operand) (l : Env) (h : Hp) (nx : Nat) : SR := on2 l x y (oMapEntry T h nx)
noncomputable def sEntryStore (_ : TypeId) (x y z : Operand) (l : Env) (h : Hp) (nx : Nat) : SR := on3 l x y z (oEntryStore h nx)
noncomputable def sRange (T : TypeId) (x : Operand) (l : Env) (h : Hp) (nx : Nat) : SR := on1 l x (oRange T h nx)
noncomputable def sNext (x : Operand) (str : Bool) (l : Env) (h : Hp) (nx : Nat) : SR := on1 l x (oNext str h nx)
noncomputable def sEntry (x : Operand) (l : Env) (h : Hp) (_ : Nat) : SR := on1 l x (oEntry h)
noncomputable def sTypeAssert (_ : Operand) (_ _ : TypeId) (_ : Bool) (_ : Env) (_ : Hp) (_ : Nat) : SR := .bad 128
noncomputable def sExtract (x : Operand) (i : Nat) (l : Env) (_ : Hp) (_ : Nat) : SR := on1 l x fun v => match v with
  | .tup vs => srv 120 ((lget vs i).map ofTV)
  | _ => .bad 121
noncomputable def sCall (c : Call) (l : Env) (h : Hp) (nx : Nat) : SR := oCall c l h nx
noncomputable def sBad1 (_ : Call) (_ : Env) (_ : Hp) (_ : Nat) : SR := .bad 129
noncomputable def sPanic (_ : Operand) (_ : Env) (_ : Hp) (_ : Nat) : SR := .bad 130
noncomputable def sSend (_ _ : Operand) (_ : Env) (_ : Hp) (_ : Nat) : SR := .bad 131
noncomputable def sRecv (_ : TypeId) (_ : Operand) (_ : Bool) (_ : Env) (_ : Hp) (_ : Nat) : SR := .bad 132
noncomputable def sSelect (_ : Array SelectCase) (_ : Bool) (_ : Env) (_ : Hp) (_ : Nat) : SR := .bad 133
/-- What an operation comes to. -/
noncomputable def sem (o : Op) : Env → Hp → Nat → SR := Op.casesOn (motive := fun _ => Env → Hp → Nat → SR) o sMove sMove sPick sAlloc sBox sBuild sBuildSlice sInsert sLoad sStore sReady sReady sNilCheck sBin sUn sConv sS2a sMakeIface sMakeFunc sMakeMap sMakeChan sMakeSlice sSlice sFieldAddr sField sIndexAddr sIndex sLookup sMapUpdate sMapEntry sEntryStore sRange sNext sEntry sTypeAssert sExtract sCall sBad1 sBad1 sPanic sSend sRecv sSelect
/-! regions of open order -/
noncomputable def isAlloc : Op → Bool
  | .alloc _ => true
  | .box .. => true
  | .buildSlice .. => true
  | .makeMap .. => true
  | .makeSlice .. => true
  | .convert _ T _ => match undT T with
    | some (.slice _) => true
    | _ => false
  | _ => false
noncomputable def isEff : Op → Bool
  | .assign _ | .store .. | .entryStore .. | .mapUpdate .. | .mapEntry .. | .insert .. | .range .. | .next .. => true
  | .call { callee := .builtin b, .. } => match b with
    | .len | .cap | .min | .max => false
    | _ => true
  | .call _ => true
  | .convert .. => false
  | _ => false
noncomputable def maskAt (ms : Tr Nat) (i : Nat) : Nat := match ms.get i with
  | some m => m
  | none => 0
noncomputable def edgeM (ms : Tr Nat) : List Edge → Nat → Nat
  | [], m => m
  | e :: r, m => match Region.binds .any e with
    | false => edgeM ms r m
    | true => edgeM ms r (Nat.lor m (Nat.lor (Nat.shiftLeft 1 e.on) (maskAt ms e.on)))
noncomputable def backB (i : Nat) : List Edge → Bool
  | [] => true
  | e :: r => match Region.binds .any e with
    | false => backB i r
    | true => match Nat.blt e.on i with
      | true => backB i r
      | false => false
noncomputable def bitB (m i : Nat) : Bool := Nat.beq (Nat.land (Nat.shiftRight m i) 1) 1
noncomputable def needN (m : Nat) : List POp → Nat
  | [] => 0
  | e :: r => match bitB m e.i with
    | true => needN m r + 1
    | false => needN m r
/-- Each operation with all that it waits for: the effects, the others. -/
noncomputable def pops : List Oper → Nat → Tr Nat → List POp → List POp → Option (List POp × List POp)
  | [], _, _, es, rs => some (es.reverse, rs.reverse)
  | o :: r, i, ms, es, rs => match backB i o.after.toList with
    | false => none
    | true => match edgeM ms o.after.toList 0 with
      | m => match isEff o.op with
        | true => match es with
          | [] => pops r (i + 1) (ms.set m i) [⟨i, o, m, es.length⟩] rs
          | e :: _ => match bitB m e.i with
            | true => pops r (i + 1) (ms.set m i) (⟨i, o, m, es.length⟩ :: es) rs
            | false => none
        | false => pops r (i + 1) (ms.set m i) es (⟨i, o, m, needN m es⟩ :: rs)
noncomputable def sel (k : Nat) : List POp → List POp
  | [] => []
  | p :: r => match Nat.beq p.nd k with
    | true => p :: sel k r
    | false => sel k r
noncomputable def pend (prev : Option POp) (p : POp) : Bool := match prev with
  | none => true
  | some e => match bitB e.m p.i with
    | true => false
    | false => true
noncomputable def selOld (k : Nat) (prev : Option POp) : List POp → List POp
  | [] => []
  | p :: r => match Nat.blt p.nd k with
    | true => match pend prev p with
      | true => p :: selOld k prev r
      | false => selOld k prev r
    | false => selOld k prev r
noncomputable def phGo (rest : List POp) : Nat → Option POp → List POp → List Phase
  | k, prev, [] => [⟨sel k rest, selOld k prev rest, none⟩]
  | k, prev, e :: r => ⟨sel k rest, selOld k prev rest, some e⟩ :: phGo rest (k + 1) (some e) r
/-- Which of the others writes a slot; none writes one that another one does. -/
noncomputable def writers : List POp → Tr Nat → Option (Tr Nat)
  | [], w => some w
  | p :: r, w => match p.o.dst with
    | none => writers r w
    | some d => match w.get d with
      | some _ => none
      | none => writers r (w.set p.i d)
noncomputable def seesB (w : Tr Nat) (m : Nat) : List Operand → Bool
  | [] => true
  | x :: r => match x with
    | .tmp t => match w.get t with
      | none => seesB w m r
      | some i => match bitB m i with
        | true => seesB w m r
        | false => false
    | _ => seesB w m r
noncomputable def lookB (ops : List Oper) (w : Tr Nat) (p : POp) : Bool := match seesB w p.m p.o.op.operands.toList with
  | false => false
  | true => match p.o.guard with
    | none => true
    | some (j, _) => match lget ops j with
      | none => false
      | some g => match g.dst with
        | none => false
        | some t => match w.get t with
          | none => true
          | some i => bitB p.m i
noncomputable def looksB (ops : List Oper) (w : Tr Nat) : List POp → Bool
  | [] => true
  | p :: r => match lookB ops w p with
    | true => looksB ops w r
    | false => false
noncomputable def phases (ops : List Oper) : Option (List Phase) := match pops ops 0 .nil [] [] with
  | none => none
  | some (es, rs) => match writers rs .nil with
    | none => none
    | some w => match writers es w with
      | none => none
      | some _ => match looksB ops w rs with
        | false => none
        | true => match looksB ops w es with
          | false => none
          | true => some (phGo rs 0 none es)
/-! steps -/
noncomputable def gval (ops : List Oper) (l : Env) (j : Nat) : Option AV := oget (lget ops j) fun g => oget g.dst fun d => l.get d
noncomputable def isB (w : Bool) : AV → Bool
  | .s (.bool b) => b == w
  | _ => false
noncomputable def wanted (ops : List Oper) (l : Env) (o : Oper) : Option Bool := match o.guard with
  | none => some true
  | some (j, w) => (gval ops l j).map (isB w)
noncomputable def putD (l : Env) (d : Option Nat) (v : AV) : Env := match d with
  | some d => l.set v d
  | none => l
/-- The region's plain operations and new blocks that stand ahead of the next effect. -/
noncomputable def runNew (ops : List Oper) : List POp → Env → Hp → Nat → Option (Env × Hp × Nat)
  | [], l, h, nx => some (l, h, nx)
  | p :: r, l, h, nx => match wanted ops l p.o with
    | some true => match sem p.o.op l h nx with
      | .v x => runNew ops r (putD l p.o.dst x) h nx
      | .m x h' nx' => runNew ops r (putD l p.o.dst x) h' nx'
      | _ => none
    | some false => runNew ops r (putD l p.o.dst .und) h nx
    | none => none
noncomputable def exitK (id : Nat) : List AI → Option (List AI)
  | [] => none
  | .inBlock i :: k => if Nat.beq i id then some k else exitK id k
  | _ :: k => exitK id k
noncomputable def mkEnv : List AV → Nat → Env → Env
  | [], _, l => l
  | a :: r, i, l => mkEnv r (i + 1) (l.set a i)
noncomputable def resVar (l : Env) (h : Hp) : ResultVar → Option TV
  | .tmp t => oget (l.get t) toTV
  | .cell a T => oget (l.get a) fun v => match oLoad T h v with
    | .v x => toTV x
    | _ => none
noncomputable def resVars (l : Env) (h : Hp) : List ResultVar → Option (List TV)
  | [] => some []
  | r :: rs => oget (resVar l h r) fun x => oget (resVars l h rs) fun xs => some (x :: xs)
noncomputable def resOf (f : FuncId) (l : Env) (h : Hp) : Option AV := oget (funT f) fun fn => oget (resVars l h fn.results.toList) fun vs => match vs with
  | [x] => some (ofTV x)
  | vs => some (.tup vs)
/-! the same outcomes? -/
noncomputable def fnEq (f g : Fn) : Bool := decide (f = g)
noncomputable def pvEq : PV → PV → Bool
  | .ptr a b, .ptr c d => Nat.beq a c && Nat.beq b d
  | .ifc t a b, .ifc u c d => Nat.beq t u && Nat.beq a c && Nat.beq b d
  | _, _ => false
noncomputable def pvsEq : List PV → List PV → Bool
  | [], [] => true
  | a :: r, b :: s => pvEq a b && pvsEq r s
  | _, _ => false
noncomputable def caEq : CA → CA → Bool
  | .k a, .k b => Nat.beq a b
  | .t a, .t b => Nat.beq a b
  | _, _ => false
noncomputable def svEq : SV → SV → Bool
  | .int k a, .int k' b => keq k k' && ieq a b
  | .bool a, .bool b => a == b
  | .str n x, .str m y => Nat.beq n m && Nat.beq x y
  | .ptr a b, .ptr c d => Nat.beq a c && Nat.beq b d
  | .slc a b n c, .slc a' b' n' c' => Nat.beq a a' && Nat.beq b b' && Nat.beq n n' && caEq c c'
  | .map a, .map b => Nat.beq a b
  | .fn f a b, .fn g c d => fnEq f g && pvsEq a c && pvsEq b d
  | .ifc t a b, .ifc u c d => Nat.beq t u && Nat.beq a c && Nat.beq b d
  | .pby n x, .pby m y => Nat.beq n m && Nat.beq x y
  | .nilp, .nilp => true
  | .nils, .nils => true
  | .nilm, .nilm => true
  | .nilf, .nilf => true
  | .nili, .nili => true
  | _, _ => false
noncomputable def svsEq : List SV → List SV → Bool
  | [], [] => true
  | a :: r, b :: s => svEq a b && svsEq r s
  | _, _ => false
noncomputable def tvEqF : TV → TV → Bool
  | .s a, .s b => svEq a b
  | .agg a, .agg b => svsEq a b
  | _, _ => false
noncomputable def tvsEq : List TV → List TV → Bool
  | [], [] => true
  | a :: r, b :: s => tvEqF a b && tvsEq r s
  | _, _ => false
noncomputable def avEq : AV → AV → Bool
  | .s a, .s b => svEq a b
  | .agg a, .agg b => svsEq a b
  | .tup a, .tup b => tvsEq a b
  | .und, .und => true
  | _, _ => false
noncomputable def mesEq : List (TV × TV × Nat) → List (TV × TV × Nat) → Bool
  | [], [] => true
  | (a, b, n) :: r, (c, d, m) :: s => tvEqF a c && tvEqF b d && Nat.beq n m && mesEq r s
  | _, _ => false
noncomputable def aoEq : AO → AO → Bool
  | .cells E a, .cells E' b => Nat.beq E E' && svsEq a b
  | .row E n a, .row E' m b => Nat.beq E E' && Nat.beq n m && svsEq a b
  | .brow n x, .brow m y => Nat.beq n m && Nat.beq x y
  | .map a c, .map b d => mesEq a b && Nat.beq c d
  | .dfr, .dfr => true
  | _, _ => false
noncomputable def oaoEq : Option AO → Option AO → Bool
  | none, none => true
  | some a, some b => aoEq a b
  | _, _ => false
noncomputable def rwvEq : Option (Option AO) → Option (Option AO) → Bool
  | none, none => true
  | some a, some b => oaoEq a b
  | _, _ => false
noncomputable def hpEq : Tr (Option AO) → Tr (Option AO) → Bool
  | .nil, .nil => true
  | .node l v r, .node l' v' r' => rwvEq v v' && hpEq l l' && hpEq r r'
  | _, _ => false
noncomputable def resEq : Res → Res → Bool
  | .done v h n, .done v' h' n' => avEq v v' && hpEq h.rw h'.rw && Nat.beq n n'
  | _, _ => false
/-- The block that a value leads to. -/
noncomputable def idOf : AV → Option Nat
  | .s (.ptr n _) => some n
  | .s (.slc n _ _ _) => some n
  | .s (.map n) => some n
  | _ => none
/-- An operation that may still be to come yields its value, as things are. -/
noncomputable def chkOp (l : Env) (h : Hp) (nx : Nat) (o : Oper) (v : AV) : Bool := match isAlloc o.op with
  | false => match sem o.op l h nx with
    | .v x => avEq x v
    | _ => false
  | true => match idOf v with
    | some n => match sem o.op l h n with
      | .m x h' n' => avEq x v && Nat.beq n' (n + 1) && oaoEq (h'.get n) (h.get n)
      | _ => false
    | none => false
noncomputable def chk1 (ops : List Oper) (l : Env) (h : Hp) (nx : Nat) (p : POp) : Bool := match p.o.dst with
  | none => false
  | some d => match l.get d with
    | none => false
    | some v => match wanted ops l p.o with
      | some true => chkOp l h nx p.o v
      | some false => avEq v .und
      | none => false
noncomputable def chkOld (ops : List Oper) (l : Env) (h : Hp) (nx : Nat) : List POp → Bool
  | [] => true
  | p :: r => chk1 ops l h nx p && chkOld ops l h nx r
/-- The next number that is free behind it. -/
noncomputable def numOf (ops : List Oper) (l : Env) (p : POp) (n : Nat) : Option Nat := match isAlloc p.o.op with
  | false => some n
  | true => match wanted ops l p.o with
    | some true => match p.o.dst with
      | some d => match l.get d with
        | some v => match idOf v with
          | some m => match Nat.ble n m with
            | true => some (m + 1)
            | false => none
          | none => none
        | none => none
      | none => none
    | some false => some n
    | none => none
noncomputable def chkNew (ops : List Oper) (l : Env) (h : Hp) (nx : Nat) : List POp → Nat → Bool
  | [], n => Nat.ble n nx
  | p :: r, n => chk1 ops l h nx p && match numOf ops l p n with
    | some m => chkNew ops l h nx r m
    | none => false
noncomputable def forkR (ih : List AI → Env → Hp → Nat → Cx → Res) (d : Option Nat) (k : List AI) (l : Env) (nx : Nat) (c : Cx) : List (AV × Hp) → Res → Res
  | [], r => r
  | (v, h) :: t, r => match resEq r (ih k (putD l d v) h nx c) with
    | true => forkR ih d k l nx c t r
    | false => match t with
      | [] => .bad 324
      | _ => .bad 325
/-! functions taken whole -/
noncomputable def sizeB8 (n : Nat) : Bool := Nat.beq n 1 || Nat.beq n 2 || Nat.beq n 4 || Nat.beq n 8
/-- Bytes of its own. -/
noncomputable def newB (b : Nat × Nat) (h : Hp) (nx : Nat) : AV × Hp × Nat := (.s (.slc nx 0 b.1 (.t 0)), h.set (.brow b.1 b.2) nx, nx + 1)
/-- The bytes of a slice, not too many. -/
noncomputable def bytesA (h : Hp) (v : AV) : Option (Nat × Nat) := match v with
  | .s (.str _ _) => none
  | v => oget (bytesOf h v) fun b => match Nat.ble b.1 1000000 with
    | true => some b
    | false => none
/-- What is read of a row: it, the failure, what is left. -/
noncomputable def fixX (e : Int) (b : Nat × Nat) (n : Int) : (Nat × Nat) × Int × (Nat × Nat) := match ieq e 0 with
  | true => match n with
    | .ofNat n => match Nat.ble n b.1 with
      | true => ((n, b.2 / 256 ^ (b.1 - n)), 0, (b.1 - n, b.2 % 256 ^ (b.1 - n)))
      | false => ((0, 0), 2, b)
    | .negSucc _ => ((0, 0), 2, b)
  | false => ((0, 0), e, b)
noncomputable def sizeI : Int → Bool
  | .ofNat n => sizeB8 n
  | _ => false
noncomputable def bPut (args : List AV) (h : Hp) (nx : Nat) : Option (AV × Hp × Nat) := match args with
  | [b, .s (.int .u64 (.ofNat v)), .s (.int .i64 (.ofNat n))] => match sizeB8 n && Nat.blt v 18446744073709551616 with
    | true => (bytesA h b).map fun b => newB (b.1 + n, b.2 * 256 ^ n + v % 256 ^ n) h nx
    | false => none
  | _ => none
noncomputable def bRow (args : List AV) (h : Hp) (nx : Nat) : Option (AV × Hp × Nat) := match args with
  | [b, r] => oget (bytesA h b) fun b => (bytesA h r).map fun r => newB (b.1 + 4 + r.1, (b.2 * 4294967296 + r.1) * 256 ^ r.1 + r.2) h nx
  | _ => none
noncomputable def bRead (args : List AV) (h : Hp) (nx : Nat) : Option (AV × Hp × Nat) := match args with
  | [b] => (bytesA h b).map fun b => (.s (.ptr nx 0), h.set (.cells tyReader [.pby b.1 b.2, .int .i64 0]) nx, nx + 1)
  | _ => none
noncomputable def bFixed (args : List AV) (h : Hp) (nx : Nat) : Option (AV × Hp × Nat) := match args with
  | [.s (.ptr id 0), .s (.int .i64 n)] => match h.get id with
    | some (.cells E [.pby m x, .int .i64 e]) => match Nat.beq E tyReader && Nat.ble m 1000000 with
      | true => match fixX e (m, x) n with
        | (r, e', b') => some (.s (.pby r.1 r.2), h.set (.cells E [.pby b'.1 b'.2, .int .i64 e']) id, nx)
      | false => none
    | _ => none
  | _ => none
noncomputable def bNumber (args : List AV) (h : Hp) (nx : Nat) : Option (AV × Hp × Nat) := match args with
  | [.s (.ptr id 0), .s (.int .i64 n)] => match h.get id with
    | some (.cells E [.pby m x, .int .i64 e]) => match Nat.beq E tyReader && Nat.ble m 1000000 with
      | true => match fixX (match ieq e 0 && !sizeI n with | true => 2 | false => e) (m, x) n with
        | (r, e', b') => some (.s (.int .u64 (.ofNat (r.2 % 256 ^ r.1))), h.set (.cells E [.pby b'.1 b'.2, .int .i64 e']) id, nx)
      | false => none
    | _ => none
  | _ => none
noncomputable def bClone (args : List AV) (h : Hp) (nx : Nat) : Option (AV × Hp × Nat) := match args with
  | [b] => match b with
    | .s .nils => some (b, h, nx)
    | .s (.slc _ _ _ _) => (bytesA h b).map fun b => newB b h nx
    | .s (.pby n x) => match Nat.beq n 0 with
      | true => none
      | false => (bytesA h b).map fun b => newB b h nx
    | _ => none
  | _ => none
noncomputable def built (m : Nat) (args : List AV) (h : Hp) (nx : Nat) : Option (AV × Hp × Nat) := match m with
  | 2 => bPut args h nx
  | 3 => bRow args h nx
  | 4 => bRead args h nx
  | 5 => bFixed args h nx
  | 6 => bNumber args h nx
  | 7 => bClone args h nx
  | _ => none
/-! the run -/
abbrev KT := List AI → Env → Hp → Nat → Cx → Res
noncomputable def bodyOf (f : FuncId) : Code := match funT f with
  | some fn => match fn.body with
    | some c => c
    | none => .skip
  | none => .skip
noncomputable def rV (v : AV) (d : Option Nat) (k : List AI) (l : Env) (h : Hp) (nx : Nat) (c : Cx) (ih fk : KT) : Res := ih k (putD l d v) h nx c
noncomputable def rM (v : AV) (h' : Hp) (nx' : Nat) (d : Option Nat) (k : List AI) (l : Env) (_ : Hp) (_ : Nat) (c : Cx) (ih fk : KT) : Res := ih k (putD l d v) h' nx' c
noncomputable def rBack (d : Option Nat) (k : List AI) (l : Env) (c : Cx) (ih : KT) : Res → Res
  | .done v h nx => ih k (putD l d v) h nx c
  | .at _ => .bad 300
  | .bad n => .bad n
noncomputable def rBi (d : Option Nat) (k : List AI) (l : Env) (c : Cx) (ih : KT) : Option (AV × Hp × Nat) → Res
  | some (v, h, nx) => ih k (putD l d v) h nx c
  | none => .bad 301
noncomputable def rGo (f : FuncId) (args : List AV) (d : Option Nat) (k : List AI) (l : Env) (h : Hp) (nx : Nat) (c : Cx) (ih fk : KT) : Res := ih [.code (bodyOf f)] (mkEnv args 0 .nil) h nx ⟨f, none, [], ⟨c.f, l, d, k, c.ro, c.df⟩ :: c.stk, c.nb⟩
noncomputable def rCall (f : FuncId) (args : List AV) (d : Option Nat) (k : List AI) (l : Env) (h : Hp) (nx : Nat) (c : Cx) (ih fk : KT) : Res := match kindOf f with
  | 0 => rGo f args d k l h nx c ih fk
  | 1 => rBack d k l c ih (fk [.code (bodyOf f)] (mkEnv args 0 .nil) h.firm nx ⟨f, none, [], [], nx⟩)
  | m => rBi d k l c ih (built m args h nx)
noncomputable def putPs : List Nat → List AV → Env → Env
  | p :: ps, v :: vs, l => putPs ps vs (l.set v p)
  | _, _, l => l
noncomputable def rYld (x : Nat) (args : List AV) (d : Option Nat) (k : List AI) (l : Env) (h : Hp) (nx : Nat) (c : Cx) (ih fk : KT) : Res := match h.get x with
  | some (.loop f e ps a b _ _ 0) => if Nat.beq ps.length args.length then ih [.code a, .begr, .code b] (putPs ps args e) h nx ⟨f, some x, [], ⟨c.f, l, d, k, c.ro, c.df⟩ :: c.stk, c.nb⟩ else .bad 302
  | _ => .bad 303
/-- Is it the run of a function by itself? -/
noncomputable def noFk (fk : KT) : Bool := match fk [] .nil Hp.nil 0 ⟨0, none, [], [], 0⟩ with
  | .bad n => Nat.beq n 331
  | _ => false
noncomputable def rFork (vs : List (AV × Hp)) (d : Option Nat) (k : List AI) (l : Env) (_ : Hp) (nx : Nat) (c : Cx) (ih fk : KT) : Res := match noFk fk with
  | false => .bad 300
  | true => match vs with
    | [] => .bad 304
    | (v, h) :: r => forkR ih d k l nx c r (ih k (putD l d v) h nx c)
noncomputable def rBad (n : Nat) (_ : Option Nat) (_ : List AI) (_ : Env) (_ : Hp) (_ : Nat) (_ : Cx) (_ _ : KT) : Res := .bad n
noncomputable def opGo (o : Oper) (k : List AI) (l : Env) (h : Hp) (nx : Nat) (c : Cx) (ih fk : KT) : Res := SR.casesOn (motive := fun _ => Option Nat → List AI → Env → Hp → Nat → Cx → KT → KT → Res) (sem o.op l h nx) rV rM rCall rYld rFork rBad o.dst k l h nx c ih fk
noncomputable def opRun (ops : List Oper) (o : Oper) (k : List AI) (l : Env) (h : Hp) (nx : Nat) (c : Cx) (ih fk : KT) : Res := match o.guard with
  | none => opGo o k l h nx c ih fk
  | some (j, w) => match gval ops l j with
    | some v => match isB w v with
      | true => opGo o k l h nx c ih fk
      | false => ih k (putD l o.dst .und) h nx c
    | none => .bad 305
/-! operations one behind the other -/
abbrev LT := List AI → Env → Hp → Nat → Cx → KT → KT → Res
noncomputable def qV (v : AV) (d : Option Nat) (_ _ : List Oper) (g : LT) (k : List AI) (l : Env) (h : Hp) (nx : Nat) (c : Cx) (ih fk : KT) : Res := g k (putD l d v) h nx c ih fk
noncomputable def qM (v : AV) (h' : Hp) (nx' : Nat) (d : Option Nat) (_ _ : List Oper) (g : LT) (k : List AI) (l : Env) (_ : Hp) (_ : Nat) (c : Cx) (ih fk : KT) : Res := g k (putD l d v) h' nx' c ih fk
noncomputable def qCall (f : FuncId) (args : List AV) (d : Option Nat) (ops r : List Oper) (_ : LT) (k : List AI) (l : Env) (h : Hp) (nx : Nat) (c : Cx) (ih fk : KT) : Res := rCall f args d (.lin ops r :: k) l h nx c ih fk
noncomputable def qYld (x : Nat) (args : List AV) (d : Option Nat) (ops r : List Oper) (_ : LT) (k : List AI) (l : Env) (h : Hp) (nx : Nat) (c : Cx) (ih fk : KT) : Res := rYld x args d (.lin ops r :: k) l h nx c ih fk
noncomputable def qFork (vs : List (AV × Hp)) (d : Option Nat) (ops r : List Oper) (_ : LT) (k : List AI) (l : Env) (h : Hp) (nx : Nat) (c : Cx) (ih fk : KT) : Res := rFork vs d (.lin ops r :: k) l h nx c ih fk
noncomputable def qBad (n : Nat) (_ : Option Nat) (_ _ : List Oper) (_ : LT) (_ : List AI) (_ : Env) (_ : Hp) (_ : Nat) (_ : Cx) (_ _ : KT) : Res := .bad n
noncomputable def linGo (o : Oper) (ops r : List Oper) (g : LT) (k : List AI) (l : Env) (h : Hp) (nx : Nat) (c : Cx) (ih fk : KT) : Res := SR.casesOn (motive := fun _ => Option Nat → List Oper → List Oper → LT → List AI → Env → Hp → Nat → Cx → KT → KT → Res) (sem o.op l h nx) qV qM qCall qYld qFork qBad o.dst ops r g k l h nx c ih fk
noncomputable def linNil (k : List AI) (l : Env) (h : Hp) (nx : Nat) (c : Cx) (ih fk : KT) : Res := ih k l h nx c
noncomputable def linG (ops : List Oper) (o : Oper) (r : List Oper) (g : LT) (k : List AI) (l : Env) (h : Hp) (nx : Nat) (c : Cx) (ih fk : KT) : Option (Nat × Bool) → Res
  | none => linGo o ops r g k l h nx c ih fk
  | some (j, w) => match gval ops l j with
    | some v => match isB w v with
      | true => linGo o ops r g k l h nx c ih fk
      | false => g k (putD l o.dst .und) h nx c ih fk
    | none => .bad 305
noncomputable def linC (ops : List Oper) (o : Oper) (r : List Oper) (g : LT) (k : List AI) (l : Env) (h : Hp) (nx : Nat) (c : Cx) (ih fk : KT) : Res := linG ops o r g k l h nx c ih fk o.guard
noncomputable def lin (ops rest : List Oper) : LT := List.rec (motive := fun _ => LT) linNil (linC ops) rest
/-- Blocks n, n + 1, .. go, but for one. -/
noncomputable def delFrom (x : Option Nat) : Nat → Nat → Hp → Hp
  | 0, _, h => h
  | m + 1, n, h => delFrom x m (n + 1) (match x with
    | some y => match Nat.beq y n with
      | true => h
      | false => h.del n
    | none => h.del n)
noncomputable def retGo (v : Option AV) (h : Hp) (nx : Nat) (stk : List Fr) (nb : Nat) (ih : KT) : Res := match v with
  | none => .bad 306
  | some v => match stk with
    | [] => .done v (delFrom (idOf v) (nx - nb) nb h) nx
    | fr :: r => ih fr.k (putD fr.l fr.dst v) h nx ⟨fr.f, fr.ro, fr.df, r, nb⟩
noncomputable def retTo (v : AV) (h : Hp) (nx : Nat) (stk : List Fr) (nb : Nat) (ih : KT) : Res := match stk with
  | [] => .bad 342
  | fr :: r => ih fr.k (putD fr.l fr.dst v) h nx ⟨fr.f, fr.ro, fr.df, r, nb⟩
noncomputable def delDf : List Nat → Hp → Option Hp
  | [], h => some h
  | d :: r, h => match h.get d with
    | some .dfr => delDf r (h.del d)
    | _ => none
/-- A round of a range over a function ends. -/
noncomputable def roundEnd (x : Nat) (j : Option Code) (h : Hp) (nx : Nat) (stk : List Fr) (nb : Nat) (ih : KT) : Res := match h.get x with
  | some (.loop f e ps a b d _ _) => retTo (.s (.bool j.isNone)) (h.set (.loop f e ps a b d j (match j with | none => 0 | some _ => 2)) x) nx stk nb ih
  | _ => .bad 307
noncomputable def leave (j : Option Code) (l : Env) (h : Hp) (nx : Nat) (c : Cx) (ih fk : KT) : Res := match c.ro with
  | none => match delDf c.df h with
    | some h' => retGo (resOf c.f l h') h' nx c.stk c.nb ih
    | none => .bad 340
  | some x => roundEnd x j h nx c.stk c.nb ih
noncomputable def cSkip (k : List AI) (l : Env) (h : Hp) (nx : Nat) (c : Cx) (ih fk : KT) : Res := ih k l h nx c
noncomputable def cRegion (_ : Nat) (ops : Array Oper) (d : Bool) (k : List AI) (l : Env) (h : Hp) (nx : Nat) (c : Cx) (ih fk : KT) : Res := match d with
  | false => lin ops.toList ops.toList k l h nx c ih fk
  | true => match phases ops.toList with
    | some ph => ih (.any ops.toList ph :: k) l h nx c
    | none => .bad 308
abbrev CT := List AI → Env → Hp → Nat → Cx → KT → KT → Res
noncomputable def cSeq (_ b : Code) (ga _ : CT) (k : List AI) (l : Env) (h : Hp) (nx : Nat) (c : Cx) (ih fk : KT) : Res := ga (.code b :: k) l h nx c ih fk
noncomputable def cCond (x : Operand) (_ _ : Code) (ga gb : CT) (k : List AI) (l : Env) (h : Hp) (nx : Nat) (c : Cx) (ih fk : KT) : Res := match ev x l with
  | some (.s (.bool true)) => ga k l h nx c ih fk
  | some (.s (.bool false)) => gb k l h nx c ih fk
  | _ => .bad 309
noncomputable def cBlock (id : Nat) (_ : Code) (gb : CT) (k : List AI) (l : Env) (h : Hp) (nx : Nat) (c : Cx) (ih fk : KT) : Res := gb (.inBlock id :: k) l h nx c ih fk
noncomputable def cLoop (b : Code) (gb : CT) (k : List AI) (l : Env) (h : Hp) (nx : Nat) (c : Cx) (ih fk : KT) : Res := gb (.inLoop b :: k) l h nx c ih fk
noncomputable def cRange (g : Operand) (ps : Array Nat) (a b : Code) (_ _ : CT) (k : List AI) (l : Env) (h : Hp) (nx : Nat) (c : Cx) (ih fk : KT) : Res := match c.ro, ev g l with
  | none, some g => match oCallV [.s (.fn (.yield (nx + 1)) [] [])] g with
    | .call f args => match kindOf f with
      | 0 => rGo f args none (.endr (nx + 1) :: k) l ((h.set .dfr nx).set (.loop c.f l ps.toList a b nx none 0) (nx + 1)) (nx + 2) ⟨c.f, none, nx :: c.df, c.stk, c.nb⟩ ih fk
      | _ => .bad 310
    | _ => .bad 311
  | _, _ => .bad 312
noncomputable def cExit (id : Nat) (k : List AI) (l : Env) (h : Hp) (nx : Nat) (c : Cx) (ih fk : KT) : Res := match exitK id k with
  | some k => ih k l h nx c
  | none => match c.ro with
    | some x => roundEnd x (some (.exit id)) h nx c.stk c.nb ih
    | none => .bad 313
noncomputable def cScope (_ : Code) (_ : CT) (_ : List AI) (_ : Env) (_ : Hp) (_ : Nat) (_ : Cx) (_ _ : KT) : Res := .bad 314
noncomputable def cLabel (_ : Nat) (k : List AI) (l : Env) (h : Hp) (nx : Nat) (c : Cx) (ih fk : KT) : Res := ih k l h nx c
noncomputable def cGoto (_ : Nat) (_ : List AI) (_ : Env) (_ : Hp) (_ : Nat) (_ : Cx) (_ _ : KT) : Res := .bad 315
noncomputable def cRet (_ : List AI) (l : Env) (h : Hp) (nx : Nat) (c : Cx) (ih fk : KT) : Res := leave (some .ret) l h nx c ih fk
noncomputable def cRefuse (_ : String) (_ : List AI) (_ : Env) (_ : Hp) (_ : Nat) (_ : Cx) (_ _ : KT) : Res := .bad 316
noncomputable def iCode (x : Code) : CT := Code.rec (motive := fun _ => CT) cSkip cRegion cSeq cCond cBlock cLoop cRange cExit cScope cLabel cGoto cRet cRefuse x
noncomputable def iLoop (b : Code) (k : List AI) (l : Env) (h : Hp) (nx : Nat) (c : Cx) (ih fk : KT) : Res := ih (.code b :: .inLoop b :: k) l h nx c
noncomputable def iBlock (_ : Nat) (k : List AI) (l : Env) (h : Hp) (nx : Nat) (c : Cx) (ih fk : KT) : Res := ih k l h nx c
noncomputable def iLin (ops rest : List Oper) : CT := lin ops rest
noncomputable def iAny (ops : List Oper) (ph : List Phase) (k : List AI) (l : Env) (h : Hp) (nx : Nat) (c : Cx) (ih fk : KT) : Res := match ph with
  | [] => .bad 317
  | p :: r => match runNew ops p.new l h nx with
    | none => .bad 318
    | some (l', h', nx') => match chkNew ops l' h' nx' p.new nx with
      | false => .bad 319
      | true => match chkOld ops l' h' nx' p.old with
        | false => .bad 330
        | true => match p.eff with
          | none => ih k l' h' nx' c
          | some q => opRun ops q.o (.any ops r :: k) l' h' nx' c ih fk
noncomputable def iEndr (x : Nat) (k : List AI) (l : Env) (h : Hp) (nx : Nat) (c : Cx) (ih fk : KT) : Res := match h.get x with
  | some (.loop _ _ _ _ _ _ p st) => match st with
    | 1 => .bad 320
    | _ => match p with
      | some q => match q with
        | .ret => ih (.code .ret :: k) l (h.del x) nx c
        | .exit i => ih (.code (.exit i) :: k) l (h.del x) nx c
        | _ => .bad 341
      | none => ih k l (h.del x) nx c
  | _ => .bad 321
noncomputable def iBegr (k : List AI) (l : Env) (h : Hp) (nx : Nat) (c : Cx) (ih fk : KT) : Res := match c.ro with
  | some x => match h.get x with
    | some (.loop f e ps a b d p 0) => ih k l (h.set (.loop f e ps a b d p 1) x) nx c
    | _ => .bad 322
  | none => .bad 323
noncomputable def iAI (x : AI) : CT := AI.casesOn (motive := fun _ => CT) x iCode iLoop iBlock iLin iAny iEndr iBegr
noncomputable def kNil (l : Env) (h : Hp) (nx : Nat) (c : Cx) (ih fk : KT) : Res := leave none l h nx c ih fk
noncomputable def stepK (k : List AI) : Env → Hp → Nat → Cx → KT → KT → Res := List.casesOn (motive := fun _ => Env → Hp → Nat → Cx → KT → KT → Res) k kNil iAI
noncomputable def rZ (k : List AI) (l : Env) (h : Hp) (nx : Nat) (c : Cx) : Res := .at ⟨k, l, h, nx, c⟩
noncomputable def noF (_ : List AI) (_ : Env) (_ : Hp) (_ : Nat) (_ : Cx) : Res := .bad 331
noncomputable def rS (fk : KT) (_ : Nat) (ih : KT) (k : List AI) (l : Env) (h : Hp) (nx : Nat) (c : Cx) : Res := stepK k l h nx c ih fk
noncomputable def runF (fk : KT) (n : Nat) : KT := Nat.rec (motive := fun _ => KT) rZ (rS fk) n
/-- A function in which any order may come up: by itself. -/
noncomputable def fkRun : KT := runF noF 20000
noncomputable def run (n : Nat) : KT := runF fkRun n
noncomputable def start (f : FuncId) (n : Nat) : Res := run n [.code (bodyOf f)] .nil Hp.nil 0 ⟨f, none, [], [], 0⟩
end Go.Proofs.YtjjjckmpkldgnaaGreatDoor.Rk
