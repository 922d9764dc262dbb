/-
  The reckoner's operations: what they look at; what they leave of memory at rest; those that only make memory. Plain theorems; no condition.
  The machine's steps at a frame, whether of a call or of a round. Plain theorems; no condition.
-/
import Derived.Test.YtjjjckmpkldgnaaGreatDoorUp
import Derived.Calls
import Derived.RangeFuncRecord
namespace Go.Proofs.YtjjjckmpkldgnaaGreatDoor.Rk
open Go.RowKit
set_option maxRecDepth 100000
theorem evs_congr {l l' : Env} : ∀ {xs : List Operand}, (∀ x ∈ xs, ev x l = ev x l') → evs xs l = evs xs l'
  | [], _ => rfl
  | x :: r, h => by
    unfold evs
    rw [h x (List.mem_cons_self ..), evs_congr fun y hy => h y (List.mem_cons_of_mem _ hy)]
theorem evp_congr {l l' : Env} : ∀ {ps : List (Nat × Operand)}, (∀ p ∈ ps, ev p.2 l = ev p.2 l') → evp ps l = evp ps l'
  | [], _ => rfl
  | (i, x) :: r, h => by
    unfold evp
    rw [h (i, x) (List.mem_cons_self ..), evp_congr fun y hy => h y (List.mem_cons_of_mem _ hy)]
theorem evo_congr {l l' : Env} {x : Option Operand} (h : ∀ y, x = some y → ev y l = ev y l') : evo x l = evo x l' := by
  cases x with
  | none => rfl
  | some y => show (ev y l).map some = (ev y l').map some; rw [h y rfl]
theorem on1_congr {l l' : Env} {x : Operand} {k : AV → SR} (h : ev x l = ev x l') : on1 l x k = on1 l' x k := by unfold on1; rw [h]
theorem on2_congr {l l' : Env} {x y : Operand} {k : AV → AV → SR} (h : ev x l = ev x l') (h2 : ev y l = ev y l') : on2 l x y k = on2 l' x y k := by unfold on2; rw [h, h2]
theorem on3_congr {l l' : Env} {x y z : Operand} {k : AV → AV → AV → SR} (h : ev x l = ev x l') (h2 : ev y l = ev y l') (h3 : ev z l = ev z l') : on3 l x y z k = on3 l' x y z k := by unfold on3; rw [h, h2, h3]
/-- An operation looks at nothing but its operands. -/
theorem sem_congr {p : Op} {l l' : Env} {h : Hp} {nx : Nat} (e : ∀ x ∈ p.operands.toList, ev x l = ev x l') : sem p l h nx = sem p l' h nx := by
  cases p with
  | move x => exact on1_congr (e x (by simp [Op.operands]))
  | assign x => exact on1_congr (e x (by simp [Op.operands]))
  | pick x y z =>
    show on1 l x _ = on1 l' x _
    rw [on1_congr (e x (by simp [Op.operands]))]
    congr 1
    funext v
    rw [on1_congr (l := l) (l' := l') (e y (by simp [Op.operands])), on1_congr (l := l) (l' := l') (e z (by simp [Op.operands]))]
  | alloc E => rfl
  | box E x => exact on1_congr (e x (by simp [Op.operands]))
  | build T ps =>
    show (match evp ps.toList l with | some ps => _ | none => _) = (match evp ps.toList l' with | some ps => _ | none => _)
    rw [evp_congr fun p hp => e p.2 (by simp only [Op.operands, List.mem_map]; exact ⟨p, hp, rfl⟩)]
  | buildSlice T n ps =>
    show (match evp ps.toList l with | some ps => _ | none => _) = (match evp ps.toList l' with | some ps => _ | none => _)
    rw [evp_congr fun p hp => e p.2 (by simp only [Op.operands, List.mem_map]; exact ⟨p, hp, rfl⟩)]
  | load T x => exact on1_congr (e x (by simp [Op.operands]))
  | store T x y => exact on2_congr (e x (by simp [Op.operands])) (e y (by simp [Op.operands]))
  | nilCheck x => exact on1_congr (e x (by simp [Op.operands]))
  | binOp op T x y T' => exact on2_congr (e x (by simp [Op.operands])) (e y (by simp [Op.operands]))
  | unOp op T x => exact on1_congr (e x (by simp [Op.operands]))
  | convert S T x => exact on1_congr (e x (by simp [Op.operands]))
  | makeInterface T x => exact on1_congr (e x (by simp [Op.operands]))
  | makeFunc f a b =>
    show (match evs a.toList l, evs b.toList l with | some a, some b => _ | _, _ => _) = (match evs a.toList l', evs b.toList l' with | some a, some b => _ | _, _ => _)
    rw [evs_congr fun x hx => e x (by simp only [Op.operands, Array.toList_append, List.mem_append]; exact .inl hx), evs_congr (xs := b.toList) fun x hx => e x (by simp only [Op.operands, Array.toList_append, List.mem_append]; exact .inr hx)]
  | makeMap T q => rfl
  | makeSlice T x y => exact on2_congr (e x (by simp [Op.operands])) (e y (by simp [Op.operands]))
  | slice T x lo hi mx =>
    show on1 l x _ = on1 l' x _
    rw [on1_congr (e x (by simp [Op.operands]))]
    rw [evo_congr (x := lo) fun y hy => e y (by subst hy; simp [Op.operands]), evo_congr (x := hi) fun y hy => e y (by subst hy; simp [Op.operands]), evo_congr (x := mx) fun y hy => e y (by subst hy; simp [Op.operands])]
  | fieldAddr T x i => exact on1_congr (e x (by simp [Op.operands]))
  | field T x i => exact on1_congr (e x (by simp [Op.operands]))
  | indexAddr T x y => exact on2_congr (e x (by simp [Op.operands])) (e y (by simp [Op.operands]))
  | index T x y => exact on2_congr (e x (by simp [Op.operands])) (e y (by simp [Op.operands]))
  | lookup T x y ok => exact on2_congr (e x (by simp [Op.operands])) (e y (by simp [Op.operands]))
  | mapUpdate T x y z => exact on3_congr (e x (by simp [Op.operands])) (e y (by simp [Op.operands])) (e z (by simp [Op.operands]))
  | mapEntry T x y => exact on2_congr (e x (by simp [Op.operands])) (e y (by simp [Op.operands]))
  | entryStore T x y z => exact on3_congr (e x (by simp [Op.operands])) (e y (by simp [Op.operands])) (e z (by simp [Op.operands]))
  | range T x => exact on1_congr (e x (by simp [Op.operands]))
  | next x s => exact on1_congr (e x (by simp [Op.operands]))
  | entry x => exact on1_congr (e x (by simp [Op.operands]))
  | extract x i => exact on1_congr (e x (by simp [Op.operands]))
  | call c =>
    have h1 : evs c.args.toList l = evs c.args.toList l' := evs_congr fun x hx => e x (by
      show x ∈ c.operands.toList
      unfold Call.operands
      split <;> simp [hx] <;> exact Or.inr (by simpa using hx))
    show oCall c l h nx = oCall c l' h nx
    unfold oCall
    rw [h1]
    split
    · rfl
    · split
      · rfl
      · rename_i g hg hc
        exact on1_congr (e g (by show g ∈ c.operands.toList; unfold Call.operands; rw [hc]; simp))
      · rename_i r nm hc
        exact on1_congr (e r (by show r ∈ c.operands.toList; unfold Call.operands; rw [hc]; simp))
      · rfl
  | _ => rfl
/-! memory at rest -/
def RoOk (h : Hp) : SR → Prop
  | .m _ h' _ => h'.ro = h.ro
  | .fork vs => ∀ q ∈ vs, q.2.ro = h.ro
  | _ => True
/-- Nothing, or one new block. -/
def NewOk (h : Hp) (nx : Nat) : SR → Prop
  | .m _ h' n' => n' = nx + 1 ∧ ∃ ao, h' = h.set ao nx
  | .v _ => True
  | .bad _ => True
  | _ => False
section
variable {l : Env} {h : Hp} {nx : Nat} {Q : SR → Prop}
theorem on1_P {x : Operand} {k : AV → SR} (hb : ∀ n, Q (.bad n)) (hk : ∀ a, Q (k a)) : Q (on1 l x k) := by
  unfold on1; split
  · exact hk _
  · exact hb _
theorem on2_P {x y : Operand} {k : AV → AV → SR} (hb : ∀ n, Q (.bad n)) (hk : ∀ a b, Q (k a b)) : Q (on2 l x y k) := by
  unfold on2; split
  · split
    · exact hk _ _
    · exact hb _
  · exact hb _
theorem on3_P {x y z : Operand} {k : AV → AV → AV → SR} (hb : ∀ n, Q (.bad n)) (hk : ∀ a b c, Q (k a b c)) : Q (on3 l x y z k) := by
  unfold on3; split
  · split
    · split
      · exact hk _ _ _
      · exact hb _
    · exact hb _
  · exact hb _
theorem srv_P {n : Nat} {v : Option AV} (hb : ∀ n, Q (.bad n)) (hv : ∀ a, Q (.v a)) : Q (srv n v) := by
  unfold srv; split
  · exact hv _
  · exact hb _
theorem gv_P {b : Bool} {n : Nat} {v : AV} (hb : ∀ n, Q (.bad n)) (hv : ∀ a, Q (.v a)) : Q (gv b n v) := by
  cases b
  · exact hb _
  · exact hv _
theorem wr_ro {id off : Nat} {vs : List SV} {h' : Hp} (e : wr h id off vs = some h') : h'.ro = h.ro := by
  unfold wr at e
  obtain ⟨o, _, e⟩ := oget_some e
  split at e
  · obtain ⟨_, _, e⟩ := oget_some e; cases e; rfl
  · obtain ⟨_, _, e⟩ := oget_some e; cases e; rfl
  · cases e
theorem callF_P {f : FuncId} {args : List AV} (hb : ∀ n, Q (.bad n)) (hc : ∀ f args, Q (.call f args)) : Q (callF f args) := by
  unfold callF
  repeat' split
  all_goals first | exact hb _ | exact hc _ _
theorem appendR_ro {E sz m : Nat} {new : List SV} {s : AV} : RoOk h (oAppendR E sz m new h nx s) := by
  unfold oAppendR
  repeat' split
  all_goals first | trivial | rfl
theorem appendB_ro {s x : AV} : RoOk h (oAppendB h nx s x) := by
  unfold oAppendB
  repeat' split
  all_goals first | trivial | rfl | (exact gv_P (fun _ => trivial) fun _ => trivial)
theorem builtin_ro {b : Builtin} {ts : List TypeId} {vs : List AV} : RoOk h (oBuiltin b ts h nx vs) := by
  unfold oBuiltin
  split
  · unfold oLen
    repeat' split
    all_goals first | trivial | (exact gv_P (fun _ => trivial) fun _ => trivial)
  · unfold oCap
    repeat' split
    all_goals first | trivial | (exact gv_P (fun _ => trivial) fun _ => trivial)
  · exact gv_P (fun _ => trivial) fun _ => trivial
  · exact gv_P (fun _ => trivial) fun _ => trivial
  · unfold oAppend oAppendN
    repeat' split
    all_goals first | trivial | exact appendB_ro | exact appendR_ro
  · unfold oCopy
    split
    · split
      · split
        · trivial
        · split
          · rename_i e
            obtain ⟨_, _, e⟩ := oget_some e
            exact wr_ro e
          · trivial
        · trivial
      · trivial
    · trivial
  · unfold oDelete
    repeat' split
    all_goals first | trivial | rfl
  · unfold oClear
    split
    · trivial
    · split
      · trivial
      · trivial
      · split
        · rfl
        · trivial
      · unfold oClearS
        split
        · split
          · split
            · split
              · rename_i e; exact wr_ro e
              · trivial
            · trivial
          · trivial
        · trivial
      · trivial
  · trivial
theorem next_ro {str : Bool} {a : AV} : RoOk h (oNext str h nx a) := by
  unfold oNext
  split
  · unfold oNextS nextC
    repeat' split
    all_goals first | trivial | rfl
  · split
    · split
      · rfl
      · split
        · split
          · unfold oNextM
            split
            · rfl
            · intro q hq
              obtain ⟨e, _, rfl⟩ := List.mem_map.1 hq
              rfl
          · trivial
        · trivial
      · trivial
    · trivial
/-- What has been at rest stays. -/
theorem sem_ro {p : Op} : RoOk h (sem p l h nx) := by
  have tb : ∀ n, RoOk h (.bad n) := fun _ => trivial
  have tv : ∀ a, RoOk h (.v a) := fun _ => trivial
  cases p with
  | move x => exact on1_P tb tv
  | assign x => exact on1_P tb tv
  | pick x y z =>
    refine on1_P tb fun v => ?_
    split
    · exact on1_P tb tv
    · exact on1_P tb tv
    · trivial
  | alloc E => show RoOk h (oAlloc E h nx); unfold oAlloc; split <;> first | trivial | rfl
  | box E x => refine on1_P tb fun v => ?_; unfold oBox; split <;> first | trivial | rfl
  | build T ps =>
    show RoOk h (sBuild T ps l h nx)
    unfold sBuild oBuild
    repeat' split
    all_goals first | trivial | exact srv_P tb tv
  | buildSlice T n ps =>
    show RoOk h (sBuildSlice T n ps l h nx)
    unfold sBuildSlice oBuildSlice
    repeat' split
    all_goals first | trivial | rfl
  | load T x =>
    refine on1_P tb fun v => ?_
    unfold oLoad
    repeat' split
    all_goals first | trivial | exact srv_P tb tv
  | store T x y =>
    refine on2_P tb fun v u => ?_
    unfold oStore
    split
    · split
      · rename_i e
        obtain ⟨xs, _, e⟩ := oget_some e
        unfold storeV at e
        split at e
        · split at e
          · exact wr_ro e
          · cases e
        · cases e
      · trivial
    · trivial
  | nilCheck x =>
    refine on1_P tb fun v => ?_
    repeat' split
    all_goals trivial
  | binOp op T x y T' => exact on2_P tb fun v u => srv_P tb tv
  | unOp op T x => exact on1_P tb fun v => srv_P tb tv
  | convert S T x =>
    refine on1_P tb fun v => ?_
    unfold oConv oConvI oConvS oConvB
    repeat' split
    all_goals first | trivial | rfl | exact srv_P tb tv
  | makeInterface T x =>
    refine on1_P tb fun v => ?_
    unfold oMakeIface
    repeat' split
    all_goals trivial
  | makeFunc f a b =>
    show RoOk h (sMakeFunc f a b l h nx)
    unfold sMakeFunc oMakeFunc
    repeat' split
    all_goals trivial
  | makeMap T q =>
    show RoOk h (sMakeMap T q l h nx)
    unfold sMakeMap
    split <;> first | trivial | rfl
  | makeSlice T x y =>
    refine on2_P tb fun v u => ?_
    unfold oMakeSlice
    repeat' split
    all_goals first | trivial | rfl
  | slice T x lo hi mx =>
    refine on1_P tb fun v => ?_
    split
    · unfold oSlice sliceS sliceT sliceArr sliceStr
      repeat' split
      all_goals trivial
    · trivial
  | fieldAddr T x i =>
    refine on1_P tb fun v => ?_
    repeat' split
    all_goals trivial
  | field T x i =>
    refine on1_P tb fun v => ?_
    unfold oField
    repeat' split
    all_goals first | trivial | exact srv_P tb tv
  | indexAddr T x y =>
    refine on2_P tb fun v u => ?_
    unfold oIndexAddr
    repeat' split
    all_goals trivial
  | index T x y =>
    refine on2_P tb fun v u => ?_
    unfold oIndex
    repeat' split
    all_goals first | trivial | exact srv_P tb tv
  | lookup T x y ok =>
    refine on2_P tb fun v u => ?_
    unfold oLookup zeroOk
    repeat' split
    all_goals trivial
  | mapUpdate T x y z =>
    refine on3_P tb fun v u q => ?_
    unfold oMapUpdate
    repeat' split
    all_goals first | trivial | rfl
  | mapEntry T x y =>
    refine on2_P tb fun v u => ?_
    unfold oMapEntry
    repeat' split
    all_goals first | trivial | rfl
  | entryStore T x y z =>
    refine on3_P tb fun v u q => ?_
    unfold oEntryStore
    repeat' split
    all_goals first | trivial | rfl
  | range T x =>
    refine on1_P tb fun v => ?_
    unfold oRange oRangeM
    repeat' split
    all_goals first | trivial | rfl
  | next x s => exact on1_P tb fun v => next_ro
  | entry x =>
    refine on1_P tb fun v => ?_
    unfold oEntry
    repeat' split
    all_goals trivial
  | extract x i =>
    refine on1_P tb fun v => ?_
    split
    · exact srv_P tb tv
    · trivial
  | call c =>
    show RoOk h (oCall c l h nx)
    unfold oCall
    split
    · trivial
    · split
      · exact callF_P tb fun _ _ => trivial
      · refine on1_P tb fun v => ?_
        unfold oCallV
        split
        · exact callF_P tb fun _ _ => trivial
        · trivial
        · trivial
      · refine on1_P tb fun v => ?_
        unfold oInvoke
        split
        · split
          · exact callF_P tb fun _ _ => trivial
          · trivial
        · trivial
      · exact builtin_ro
  | _ => trivial
/-- An operation that is no effect: nothing, or one new block. -/
theorem plain_new {p : Op} (hp : isEff p = false) : NewOk h nx (sem p l h nx) := by
  have tb : ∀ n, NewOk h nx (.bad n) := fun _ => trivial
  have tv : ∀ a, NewOk h nx (.v a) := fun _ => trivial
  cases p with
  | move x => exact on1_P tb tv
  | pick x y z =>
    refine on1_P tb fun v => ?_
    split
    · exact on1_P tb tv
    · exact on1_P tb tv
    · trivial
  | alloc E => show NewOk h nx (oAlloc E h nx); unfold oAlloc; split <;> first | trivial | exact ⟨rfl, _, rfl⟩
  | box E x => refine on1_P tb fun v => ?_; unfold oBox; split <;> first | trivial | exact ⟨rfl, _, rfl⟩
  | build T ps =>
    show NewOk h nx (sBuild T ps l h nx)
    unfold sBuild oBuild
    repeat' split
    all_goals first | trivial | exact srv_P tb tv
  | buildSlice T n ps =>
    show NewOk h nx (sBuildSlice T n ps l h nx)
    unfold sBuildSlice oBuildSlice
    repeat' split
    all_goals first | trivial | exact ⟨rfl, _, rfl⟩
  | load T x =>
    refine on1_P tb fun v => ?_
    unfold oLoad
    repeat' split
    all_goals first | trivial | exact srv_P tb tv
  | nilCheck x =>
    refine on1_P tb fun v => ?_
    repeat' split
    all_goals trivial
  | binOp op T x y T' => exact on2_P tb fun v u => srv_P tb tv
  | unOp op T x => exact on1_P tb fun v => srv_P tb tv
  | convert S T x =>
    refine on1_P tb fun v => ?_
    unfold oConv oConvI oConvS oConvB
    repeat' split
    all_goals first | trivial | exact ⟨rfl, _, rfl⟩ | exact srv_P tb tv
  | makeInterface T x =>
    refine on1_P tb fun v => ?_
    unfold oMakeIface
    repeat' split
    all_goals trivial
  | makeFunc f a b =>
    show NewOk h nx (sMakeFunc f a b l h nx)
    unfold sMakeFunc oMakeFunc
    repeat' split
    all_goals trivial
  | makeMap T q =>
    show NewOk h nx (sMakeMap T q l h nx)
    unfold sMakeMap
    split <;> first | trivial | exact ⟨rfl, _, rfl⟩
  | makeSlice T x y =>
    refine on2_P tb fun v u => ?_
    unfold oMakeSlice
    repeat' split
    all_goals first | trivial | exact ⟨rfl, _, rfl⟩
  | slice T x lo hi mx =>
    refine on1_P tb fun v => ?_
    split
    · unfold oSlice sliceS sliceT sliceArr sliceStr
      repeat' split
      all_goals trivial
    · trivial
  | fieldAddr T x i =>
    refine on1_P tb fun v => ?_
    repeat' split
    all_goals trivial
  | field T x i =>
    refine on1_P tb fun v => ?_
    unfold oField
    repeat' split
    all_goals first | trivial | exact srv_P tb tv
  | indexAddr T x y =>
    refine on2_P tb fun v u => ?_
    unfold oIndexAddr
    repeat' split
    all_goals trivial
  | index T x y =>
    refine on2_P tb fun v u => ?_
    unfold oIndex
    repeat' split
    all_goals first | trivial | exact srv_P tb tv
  | lookup T x y ok =>
    refine on2_P tb fun v u => ?_
    unfold oLookup zeroOk
    repeat' split
    all_goals trivial
  | entry x =>
    refine on1_P tb fun v => ?_
    unfold oEntry
    repeat' split
    all_goals trivial
  | extract x i =>
    refine on1_P tb fun v => ?_
    split
    · exact srv_P tb tv
    · trivial
  | call c =>
    obtain ⟨cal, args, tys⟩ := c
    cases cal with
    | builtin b =>
      show NewOk h nx (oCall ⟨.builtin b, args, tys⟩ l h nx)
      unfold oCall
      split
      · trivial
      · dsimp only
        cases b with
        | len =>
          unfold oBuiltin
          split <;> first | (rename_i he; cases he) | skip
          all_goals first
            | trivial
            | (unfold oLen
               repeat' split
               all_goals first | trivial | (exact gv_P tb tv))
        | cap =>
          unfold oBuiltin
          split
          all_goals first
            | trivial
            | (unfold oCap
               repeat' split
               all_goals first | trivial | (exact gv_P tb tv))
        | min =>
          unfold oBuiltin
          split
          all_goals first | trivial | (exact gv_P tb tv)
        | max =>
          unfold oBuiltin
          split
          all_goals first | trivial | (exact gv_P tb tv)
        | _ => cases hp
    | _ => cases hp
  | _ => first | trivial | (exact Bool.noConfusion hp)
end
end Go.Proofs.YtjjjckmpkldgnaaGreatDoor.Rk
namespace Go.Proofs.YtjjjckmpkldgnaaGreatDoor.Rk
open Go.RowKit
set_option maxRecDepth 100000
/-- A frame at work. -/
def FrG (f : FuncId) (ro : Option Nat) (a : Act) (todo : List Item) : Frame := { fn := f, tmps := a.tmps, todo, defers := a.defers, mode := .run, kind := .normal, roundOf := ro }
section
variable {f : FuncId} {ro : Option Nat} {a : Act} {k : List Item} {cs : List Frame} {w w' : World}
theorem eval_G (t : List Item) : (FrG f ro a t).eval = a.eval := funext fun x => by cases x <;> rfl
theorem st_skip : step P (lone (FrG f ro a (.code .skip :: k)) cs w) = .next (lone (FrG f ro a k) cs w) := step_lone_go (by simp [stepG, stepG.exec, FrG])
theorem st_label {n : Nat} : step P (lone (FrG f ro a (.code (.label n) :: k)) cs w) = .next (lone (FrG f ro a k) cs w) := step_lone_go (by simp [stepG, stepG.exec, FrG])
theorem st_inBlock {n : Nat} : step P (lone (FrG f ro a (.inBlock n :: k)) cs w) = .next (lone (FrG f ro a k) cs w) := step_lone_go (by simp [stepG, stepG.exec, FrG])
theorem st_seq {x y : Code} : step P (lone (FrG f ro a (.code (.seq x y) :: k)) cs w) = .next (lone (FrG f ro a (.code x :: .code y :: k)) cs w) := step_lone_go (by simp [stepG, stepG.exec, FrG])
theorem st_cond {c : Operand} {x y : Code} {t : Bool} (h : a.eval c = .bool t) : step P (lone (FrG f ro a (.code (.cond c x y) :: k)) cs w) = .next (lone (FrG f ro a (.code (if t then x else y) :: k)) cs w) := step_lone_go (by
  have := congrFun (eval_G (f := f) (ro := ro) (a := a) (.code (.cond c x y) :: k)) c
  simp only [FrG] at this
  simp [stepG, stepG.exec, FrG, this, h])
theorem st_block {n : Nat} {c : Code} : step P (lone (FrG f ro a (.code (.block n c) :: k)) cs w) = .next (lone (FrG f ro a (.code c :: .inBlock n :: k)) cs w) := step_lone_go (by simp [stepG, stepG.exec, FrG])
theorem st_loop {c : Code} : step P (lone (FrG f ro a (.code (.loop c) :: k)) cs w) = .next (lone (FrG f ro a (.code c :: .inLoop c :: k)) cs w) := step_lone_go (by simp [stepG, stepG.exec, FrG])
theorem st_inLoop {c : Code} : step P (lone (FrG f ro a (.inLoop c :: k)) cs w) = .next (lone (FrG f ro a (.code c :: .inLoop c :: k)) cs w) := step_lone_go (by simp [stepG, stepG.exec, FrG])
theorem st_exit {n : Nat} {k' : List Item} (h : exitTo n k = some k') : step P (lone (FrG f ro a (.code (.exit n) :: k)) cs w) = .next (lone (FrG f ro a k') cs w) := step_lone_go (by simp [stepG, stepG.exec, FrG, h])
theorem st_region {n : Nat} {ops : Array Oper} : step P (lone (FrG f ro a (.code (.region n ops false) :: k)) cs w) = .next (lone (FrG f ro a (.inRegion ops (List.range ops.size) :: k)) cs w) := step_lone_go (by simp [stepG, stepG.exec, FrG])
theorem st_draw {n : Nat} {ops : Array Oper} : step P (lone (FrG f ro a (.code (.region n ops true) :: k)) cs w) = .next (lone (FrG f ro a (.inRegion ops (Region.schedule (P.follows .mixedOrders) ops (w.tape w.drawn (.order f n))) :: k)) cs { w with drawn := w.drawn + 1 }) :=
  step_lone_go (by simp [stepG, stepG.exec, FrG, choose, Sem.run, Question.forced, Question.cut])
theorem st_end {ops : Array Oper} : step P (lone (FrG f ro a (.inRegion ops [] :: k)) cs w) = .next (lone (FrG f ro a k) cs w) := step_lone_go (by simp [stepG, stepG.exec, FrG])
theorem fin_G {ops : Array Oper} {i : Nat} {rest : List Nat} {v : Value} : (FrG f ro a (.inRegion ops (i :: rest) :: k)).finish v = FrG f ro (a.put ((ops[i]?).bind (·.dst)) v) (.inRegion ops rest :: k) := by
  cases h : (ops[i]?).bind (·.dst) <;> simp [Frame.finish, FrG, Act.put, h]
theorem st_unwanted {ops : Array Oper} {i : Nat} {rest : List Nat} {o : Oper} (ho : ops[i]? = some o) (h : Region.wanted o (yielded ops a.tmps) = false) : step P (lone (FrG f ro a (.inRegion ops (i :: rest) :: k)) cs w) = .next (lone (FrG f ro (a.put o.dst undef) (.inRegion ops rest :: k)) cs w) := by
  have e : (FrG f ro a (.inRegion ops (i :: rest) :: k)).finish undef = FrG f ro (a.put o.dst undef) (.inRegion ops rest :: k) := by rw [fin_G, ho]; rfl
  rw [← e]
  exact step_lone_go (by simp [stepG, stepG.exec, FrG, ho, h])
theorem stG_op {ops : Array Oper} {i : Nat} {rest : List Nat} {o : Oper} (ho : ops[i]? = some o) (hw : Region.wanted o (yielded ops a.tmps) = true) (hd : ∀ c, o.op ≠ .defer c) :
    stepG P true { frame := FrG f ro a (.inRegion ops (i :: rest) :: k), callers := cs, status := .running, dying := none } w = stepG.apply P true (FrG f ro a (.inRegion ops (i :: rest) :: k)) cs none (execOp a.eval o) w := by
  have he := eval_G (f := f) (ro := ro) (a := a) (.inRegion ops (i :: rest) :: k)
  simp only [FrG] at he
  simp only [stepG, stepG.exec, stepG.oper, Frame.oper?, FrG, ho, hw, he, Option.map_some, Option.getD_some, if_true]
  split
  · rename_i e2; exact absurd e2 (hd _)
  · rfl
theorem st_value {ops : Array Oper} {i : Nat} {rest : List Nat} {o : Oper} {v : Value} {nt : Next} (ho : ops[i]? = some o) (hw : Region.wanted o (yielded ops a.tmps) = true) (hd : ∀ c, o.op ≠ .defer c) (hn : nt = .value v ∨ (nt = .skip ∧ v = undef)) (hr : (execOp a.eval o).run P w = .ok nt w') :
    step P (lone (FrG f ro a (.inRegion ops (i :: rest) :: k)) cs w) = .next (lone (FrG f ro (a.put o.dst v) (.inRegion ops rest :: k)) cs w') := by
  have e : (FrG f ro a (.inRegion ops (i :: rest) :: k)).finish v = FrG f ro (a.put o.dst v) (.inRegion ops rest :: k) := by rw [fin_G, ho]; rfl
  refine step_lone_go ?_
  rw [stG_op ho hw hd, ← e]
  rcases hn with rfl | ⟨rfl, rfl⟩
  · simp [stepG.apply, hr]
  · simp [stepG.apply, hr]
theorem st_enter {ops : Array Oper} {i : Nat} {rest : List Nat} {o : Oper} {g : FuncId} {us : Array Value} (ho : ops[i]? = some o) (hw : Region.wanted o (yielded ops a.tmps) = true) (hd : ∀ c, o.op ≠ .defer c) (hr : (execOp a.eval o).run P w = .ok (.enter g us) w') :
    step P (lone (FrG f ro a (.inRegion ops (i :: rest) :: k)) cs w) = .next (lone (Frame.enter P g us .normal) (FrG f ro a (.inRegion ops (i :: rest) :: k) :: cs) w') := by
  refine step_lone_go ?_
  rw [stG_op ho hw hd]
  simp [stepG.apply, hr, FrG]
theorem st_round {ops : Array Oper} {i : Nat} {rest : List Nat} {o : Oper} {x : Nat} {g : FuncId} {ts : Array Value} {ca cb : Code} (ho : ops[i]? = some o) (hw : Region.wanted o (yielded ops a.tmps) = true) (hd : ∀ c, o.op ≠ .defer c) (hr : (execOp a.eval o).run P w = .ok (.round x g ts ca cb) w') :
    step P (lone (FrG f ro a (.inRegion ops (i :: rest) :: k)) cs w) = .next (lone (FrG g (some x) ⟨ts, []⟩ [.code ca, .beginRound, .code cb]) (FrG f ro a (.inRegion ops (i :: rest) :: k) :: cs) w') := by
  refine step_lone_go ?_
  rw [stG_op ho hw hd]
  simp [stepG.apply, hr, FrG, Frame.round]
theorem enter_G {g : FuncId} {fn : Func} {c : Code} {us : Array Value} (hf : P.funcs[g]? = some fn) (hb : fn.body = some c) : Frame.enter P g us .normal = FrG g none ⟨us ++ Array.replicate (fn.ntmps - us.size) undef, []⟩ [.code c] := by
  simp [Frame.enter, FrG, hf, hb]
/-! ends -/
/-- The frame's call comes to its end. -/
def FrE (f : FuncId) (a : Act) (todo : List Item) : Frame := { fn := f, tmps := a.tmps, todo, defers := a.defers, mode := .returning, kind := .normal, roundOf := none }
theorem st_ret : step P (lone (FrG f none a (.code .ret :: k)) cs w) = .next (lone (FrE f a (.code .ret :: k)) cs w) := step_lone_go (by simp [stepG, stepG.exec, FrG, FrE])
theorem st_nil : step P (lone (FrG f none a []) cs w) = .next (lone (FrE f a []) cs w) := step_lone_go (by simp [stepG, stepG.exec, FrG, FrE])
theorem st_take {b : Nat} {ds : List Deferred} {ts : Array Value} (hb : w.heap[b]? = some (.deferred (some []))) : step P (lone (FrE f ⟨ts, { target := .collected b, args := #[] } :: ds⟩ k) cs w) = .next (lone (FrE f ⟨ts, ds⟩ k) cs (w.putObj b (.deferred none))) := step_lone_go (by
  simp [stepG, unwind, FrE, run_takeDeferred hb])
/-! rounds -/
theorem st_begin {b : Nat} {r : Loop} (hb : w.heap[b]? = some (.loop r)) (hs : r.state = .ready) : step P (lone (FrG f (some b) a (.beginRound :: k)) cs w) = .next (lone (FrG f (some b) a k) cs (w.putObj b (.loop { r with state := .busy }))) := step_lone_go (by
  have h : (do Instr.beginRound b; pure Next.skip : Sem Next).run P w = .ok .skip (w.putObj b (.loop { r with state := .busy })) := by
    simp [Sem.run_bind, run_beginRound hb hs, Result.andThen]
  simp [stepG, stepG.exec, FrG, stepG.apply, Frame.finish] at h ⊢
  rw [h]
  simp)
theorem st_endRound {b : Nat} {r : Loop} {c : Frame} {j : Option Code} {t : List Item} (ht : (j = none ∧ t = []) ∨ (j = some .ret ∧ t = .code .ret :: k) ∨ ∃ n, j = some (.exit n) ∧ t = .code (.exit n) :: k ∧ exitTo n k = none) (hb : w.heap[b]? = some (.loop r)) : step P (lone (FrG f (some b) a t) (c :: cs) w) = .next (lone (c.finish (.bool j.isNone)) cs (w.putObj b (.loop { r with state := if j.isNone then .ready else .done, pending := j }))) := step_lone_go (by
  rcases ht with ⟨rfl, rfl⟩ | ⟨rfl, rfl⟩ | ⟨n, rfl, rfl, hx⟩
  · simp [stepG, stepG.exec, FrG, run_endRound none hb, doReturn]
  · simp [stepG, stepG.exec, FrG, run_endRound (some .ret) hb, doReturn]
  · simp [stepG, stepG.exec, FrG, hx, run_endRound (some (.exit n)) hb, doReturn])
theorem st_endLoop {b : Nat} {r : Loop} (hb : w.heap[b]? = some (.loop r)) (hs : r.state ≠ .busy) : step P (lone (FrG f ro a (.endRangeFunc b :: k)) cs w) = .next (lone (FrG f ro a ((r.pending.map Item.code).toList ++ k)) cs (w.putObj b (.loop { r with state := .exhausted }))) := step_lone_go (by
  simp [stepG, stepG.exec, FrG, run_endLoop hb hs])
/-- A range over a function: the record is made, the function entered. -/
theorem st_range {x : Operand} {ps : Array Tmp} {ca cb : Code} {g : FuncId} {us : Array Value} (he : ∀ w' : World, (do let d ← resolve a.eval { callee := .value x, args := #[.const (.func (.yield (w.heap.size + 1)) #[] #[])], argTypes := #[] } 0; invoke d.target d.args).run P w' = .ok (.enter g us) w') :
    step P (lone (FrG f none a (.code (.rangeFunc x ps ca cb) :: k)) cs w) = .next (lone (Frame.enter P g us .normal) (FrG f none ⟨a.tmps, { target := .collected w.heap.size, args := #[] } :: a.defers⟩ (.inRangeFunc (w.heap.size + 1) :: k) :: cs) ((w.alloc (.deferred (some []))).alloc (.loop { state := .ready, pending := none, fn := f, tmps := a.tmps, params := ps, assign := ca, body := cb, defers := w.heap.size }))) := step_lone_go (by
  have hev : ∀ t, Frame.eval { fn := f, tmps := a.tmps, todo := t, defers := { target := .collected w.heap.size, args := #[] } :: a.defers, mode := .run, kind := .normal, roundOf := none } = a.eval := fun t => funext fun x => by cases x <;> rfl
  have h := he ((w.alloc (.deferred (some []))).alloc (.loop { state := .ready, pending := none, fn := f, tmps := a.tmps, params := ps, assign := ca, body := cb, defers := w.heap.size }))
  simp only [stepG, stepG.exec, FrG, Sem.runT_eq, run_enterLoop_outer, GStep.bare_after]
  simp only [stepG.apply, hev, List.singleton_append, Sem.runT_eq, if_true, h, GStep.bare_after]
  rfl)
theorem leave_E {fn : Func} {u : Value} (hd : a.defers = []) (hf : P.funcs[f]? = some fn) (hr : (results fn a.tmps).run P w = .ok u w) : (FrE f a k).leaving P w (.returned u) := ⟨rfl, hd, rfl, fn, hf, hr⟩
end
end Go.Proofs.YtjjjckmpkldgnaaGreatDoor.Rk
