/-
  From a walk to a row: a law's post, out of what a walk leaves. Plain theorems over any program; no condition.
-/
import Derived.Test.YtekdmpbkcjjllaaDoorKf
import Derived.ProofKit
import Derived.OpenShut
namespace Go.Proofs.YtekdmpbkcjjllaaDoor
open Go.RowKit Go.ChangeShapes Go.WideShapes Go.ChangeAt

theorem inK_i64 {n : Int} (h : (Lit.int .i64 n).wf = true) : InK .i64 n := by have := bounds_i64 h; dsimp only [InK]; omega
instance (k : IntKind) (n : Int) : Decidable (InK k n) := by cases k <;> (unfold InK; infer_instance)
theorem below_of {w w' : World} (hm : Mild w w') (h : (ph w).le (ph w')) : Below w.heap.size w w' :=
  ⟨hm.os, hm.tape, hm.output, hm.size, fun k hk => by
    obtain ⟨o, ho⟩ : ∃ o, w.heap[k]? = some o := ⟨_, Array.getElem?_eq_getElem hk⟩
    rw [ho]; exact h k o ho⟩
/-- A law's walk, as the row wants it. -/
theorem law_walk {P : Program} {f : FuncId} {args : List Value} {w : World} {v : Value} (h : Pure P f args (ph w) v) : Calls P f args.toArray w fun e w' => e = .returned v ∧ Below w.heap.size w w' :=
  (Spec.out h [] w (Sat.nil w)).mono fun e w' ⟨u, F', H', he, hF, ⟨hu, _⟩, hm, hs⟩ => ⟨by rw [he, hu], below_of hm (hF.trans hs.le)⟩
theorem trodAll_below {H : Type} {enc : TypeId × Value → H} {P : Program} (hl : laidOutB P = true) {W W' : World} (hb : Below W.heap.size W W') : ∀ {ts : List TypeId} {vs : List Value} {ds : List (DataW H)} {ps : List MemPlace},
    ts.all (fun t => P.readableRec t && decide (t < P.types.size)) = true → DataW.TrodAll enc P W 0 (fun _ => true) true ts vs ds ps → (∀ x ∈ ps, x.block < W.heap.size) → DataW.TrodAll enc P W' 0 (fun b => decide (b < W.heap.size)) true ts vs ds ps
  | [], vs, ds, ps, _, h, _ => by
    obtain ⟨rfl, rfl, rfl⟩ := trodAll_nil h
    exact trodAll_mk0
  | t :: ts, vs, ds, ps, hr, h, hlt => by
    obtain ⟨v, vs', d, ds', p, q, rfl, rfl, rfl, h1, h2⟩ := trodAll_cons h
    rw [List.all_cons, Bool.and_eq_true, Bool.and_eq_true] at hr
    exact ⟨p, q, Below.trod hl hr.1.1 (by simpa using hr.1.2) h1 hb (fun x hx => hlt x (by simp [hx])), trodAll_below hl hb hr.2 h2 (fun x hx => hlt x (by simp [hx])), rfl⟩
theorem law_post {H : Type} {enc : TypeId × Value → H} {P : Program} {f : Func} {s : ChangeSpec} {W W' : World} {args : Array Value} {ds gs : List (DataW H)} {before p : List MemPlace} {tb : TypeId}
    (hl : laidOutB P = true) (hr : f.params.toList.all (fun t => P.readableRec t && decide (t < P.types.size)) = true) (hv : s.vars = []) (ht : f.resultTypes = #[tb]) (hu : P.underlying tb = some .bool)
    (hW : DataW.Whole enc P f.params.toList s.vars false W args.toList ds gs before) (hA : DataW.TrodAll enc P W 0 (fun _ => true) true f.params.toList args.toList ds p) (hp : before = p)
    (hs : s.fn H (ds ++ gs) = { results := [.lit (.bool true)], args := ds }) (hb : Below W.heap.size W W') : s.post enc P f false true false false W args (.bool true) W' := by
  subst hp
  refine ⟨ds, gs, before, [], before, [], hW, ?_, ?_, ?_, ?_, fun h => by cases h⟩
  · rw [hs, ht]
    exact trodAll_mk1 (shut_bool hu true)
  · rw [hs]
    exact trodAll_below hl hb hr hA (fun x hx => by simpa using hW.lt x hx)
  · rw [hs, hv]
    rfl
  · exact World.keptBut_mono (fun q hq => ⟨hq, .inr (.inl hq)⟩) (hb.frame (· ∈ before))
end Go.Proofs.YtekdmpbkcjjllaaDoor
