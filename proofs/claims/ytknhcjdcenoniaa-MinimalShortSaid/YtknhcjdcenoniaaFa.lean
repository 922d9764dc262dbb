/-
  Policies: trees, and what stands for them in memory. Conditions are typed with each.
-/
import Derived.Test.YtknhcjdcenoniaaKy
import Derived.Test.YtknhcjdcenoniaaRows
import Derived.Test.YtknhcjdcenoniaaChecked
namespace Go.Proofs.Ytknhcjdcenoniaa
open Go.RowKit
theorem take_snoc {α : Type} {l : List α} {j : Nat} {x : α} (h : l[j]? = some x) : l.take (j + 1) = l.take j ++ [x] := by
  obtain ⟨hlt, rfl⟩ := List.getElem?_eq_some_iff.1 h
  exact List.take_succ_eq_append_getElem hlt
set_option maxHeartbeats 4000000 in
inductive Fm where
  | node (o a : Int) (ks : List Fm)
def Fm.o : Fm → Int | .node o _ _ => o
def Fm.a : Fm → Int | .node _ a _ => a
def Fm.ks : Fm → List Fm | .node _ _ ks => ks
mutual
def Fm.nodes : Fm → Nat
  | .node _ _ ks => 1 + nodesL ks
def nodesL : List Fm → Nat
  | [] => 0
  | k :: ks => k.nodes + nodesL ks
end
theorem Fm.nodes_eq (f : Fm) : f.nodes = 1 + nodesL f.ks := by cases f; simp [Fm.nodes, Fm.ks]
theorem Fm.nodes_pos (f : Fm) : 1 ≤ f.nodes := by rw [f.nodes_eq]; omega
theorem nodesL_app (a b : List Fm) : nodesL (a ++ b) = nodesL a + nodesL b := by
  induction a with
  | nil => simp [nodesL]
  | cons k a ih => simp [nodesL, ih]; omega
theorem nodesL_snoc {ks : List Fm} {i : Nat} {k : Fm} (h : ks[i]? = some k) : nodesL (ks.take (i + 1)) = nodesL (ks.take i) + k.nodes := by
  rw [take_snoc h, nodesL_app]; simp [nodesL]
theorem nodesL_take (ks : List Fm) (i : Nat) : nodesL (ks.take i) ≤ nodesL ks := by
  have := nodesL_app (ks.take i) (ks.drop i)
  rw [List.take_append_drop] at this; omega
theorem len_nodesL (ks : List Fm) : ks.length ≤ nodesL ks := by
  induction ks with
  | nil => simp [nodesL]
  | cons k ks ih => have := k.nodes_pos; simp [nodesL]; omega
theorem idx_nodesL {ks : List Fm} {i : Nat} (h : i < ks.length) : i ≤ nodesL (ks.take i) := by
  have := len_nodesL (ks.take i)
  rw [List.length_take] at this; omega
theorem nodes_lt {f k : Fm} {i : Nat} (h : f.ks[i]? = some k) : k.nodes < f.nodes := by
  have h1 := nodesL_snoc h
  have h2 := nodesL_take f.ks (i + 1)
  rw [f.nodes_eq]; omega
/-- What holds of a tree if it does of its kids. -/
theorem Fm.ind {p : Fm → Prop} (h : ∀ f, (∀ (i : Nat) k, f.ks[i]? = some k → p k) → p f) : ∀ f, p f := by
  have : ∀ n f, Fm.nodes f ≤ n → p f := by
    intro n
    induction n with
    | zero => intro f hf; have := f.nodes_pos; omega
    | succ n ih => exact fun f hf => h f fun i k hk => ih k (by have := nodes_lt hk; omega)
  exact fun f => this _ f (Nat.le_refl _)
def fcells (f : Fm) (v : Value) : List Value := [.int .i64 f.o, .int .i64 f.a, v]
/-- The cells cs are the tree f's. -/
inductive FRep (F : PH) : Fm → List Value → Prop where
  | mk {f : Fm} {v : Value} {css : Nat → List Value} (ho : InK .i64 f.o) (ha : InK .i64 f.a) (hs : SliceV F 3 v f.ks.length ((List.range f.ks.length).map css).flatten) (hk : ∀ (i : Nat) (k : Fm), f.ks[i]? = some k → FRep F k (css i)) : FRep F f (fcells f v)
theorem FRep.mono {F G : PH} (hl : F.le G) {f : Fm} {cs : List Value} (h : FRep F f cs) : FRep G f cs := by
  induction h with
  | mk ho ha hs _ ih => exact .mk ho ha (SliceV.mono hs hl) ih
theorem FRep.len {F : PH} {f : Fm} {cs : List Value} (h : FRep F f cs) : cs.length = 3 := by cases h; rfl
theorem FRep.ones {F : PH} {f : Fm} {cs : List Value} (h : FRep F f cs) : Ones cs := by
  cases h with
  | mk _ _ hs _ =>
    obtain ⟨_, a, c, rfl, _⟩ := hs
    unfold fcells
    (repeat (first | exact ones_nil | refine ones_cons rfl ?_))
/-- A tree's cells, and where its kids stand. -/
theorem FRep.inv {F : PH} {f : Fm} {cs : List Value} (h : FRep F f cs) : ∃ a c, cs = fcells f (.slice a f.ks.length c) ∧ InK .i64 f.o ∧ InK .i64 f.a ∧ f.ks.length ≤ c ∧
    ∀ (i : Nat) (k : Fm), f.ks[i]? = some k → ∃ b off ci, a = some ⟨b, off, none⟩ ∧ Cells F b (off + i * 3) ci ∧ FRep F k ci := by
  cases h with
  | @mk _ v css ho ha hs hk =>
    obtain ⟨_, a, c, rfl, hc, _⟩ := id hs
    refine ⟨a, c, rfl, ho, ha, hc, fun i k hi => ?_⟩
    have hlt := (List.getElem?_eq_some_iff.1 hi).1
    obtain ⟨b, off, e, hcc⟩ := hs.row (i := i) (r := css i) (fun c hc => by
      obtain ⟨j, hj, rfl⟩ := List.mem_map.1 hc
      have hj' := List.mem_range.1 hj
      exact (hk j _ (List.getElem?_eq_getElem hj')).len) (by simp [hlt]) hlt
    exact ⟨b, off, _, e, hcc, hk i k hi⟩
end Go.Proofs.Ytknhcjdcenoniaa
