/-
  Acts that come in; the map of who lies. Conditions are typed with each.
-/
import Derived.Test.YtdoaloimndehbaaBj
import Derived.Test.YtdoaloimndehbaaBk
namespace Go.Proofs.Ytdoaloimndehbaa
open Go.RowKit
set_option maxRecDepth 100000
def tyN : Ty Try.prog 3 Int := tyInt Try.underlying3
def tyL : Ty Try.prog 2 Int := tyInt Try.underlying2
def tyU4 : Ty Try.prog 70 Int := tyInt Try.underlying70
def tyDg : Ty Try.prog 29 (List UInt8) := tyArr Try.underlying29 Try.underlying5 (by kernel_rfl) (by kernel_rfl)
abbrev VoX := Int × Int × List UInt8 × Int × Unit
abbrev AcX := Int × VoX × Unit
def tyVo : Ty Try.prog 72 VoX := tyStruct Try.underlying72 (fsCons tyN (fsCons tyL (fsCons tyDg (fsCons tyU4 (fsNil _) rfl (by kernel_rfl)) rfl (by kernel_rfl)) rfl (by kernel_rfl)) rfl (by kernel_rfl)) (by kernel_rfl)
def tyAct : Ty Try.prog 77 AcX := tyStruct Try.underlying77 (fsCons tyN (fsCons tyVo (fsNil _) rfl (by kernel_rfl)) rfl (by kernel_rfl)) (by kernel_rfl)
theorem w32_of {n : Int} (h : InK .u32 n) : Value.int .u32 n = w32 (BitVec.ofNat 32 n.toNat) := by
  have h' : 0 ≤ n ∧ n ≤ 4294967295 := h
  unfold w32
  rw [BitVec.toNat_ofNat, Nat.mod_eq_of_lt (by omega)]
  congr 1
  omega
theorem vo_of {F : PH} {x : VoX} {cs : List Value} (h : tyVo.rep F x cs) : ∃ y : Vo, cs = y.cs := by
  obtain ⟨_, _, rfl, ⟨rfl, _⟩, _, _, rfl, ⟨rfl, _⟩, _, _, rfl, ⟨rfl, hl⟩, _, _, rfl, ⟨rfl, hm⟩, rfl⟩ := h
  exact ⟨⟨x.1, x.2.1, ⟨x.2.2.1, hl⟩, BitVec.ofNat 32 x.2.2.2.1.toNat⟩, by simp [Vo.cs, w32_of hm]⟩
theorem ac_of2 {F : PH} {x : AcX} {cs : List Value} (h : tyAct.rep F x cs) : ∃ y : Ax, cs = oCs1 y := by
  obtain ⟨_, _, rfl, ⟨rfl, _⟩, _, _, rfl, hv, rfl⟩ := h
  obtain ⟨y, rfl⟩ := vo_of hv
  exact ⟨(x.1, y), by simp [oCs1, Vo.cs]⟩
theorem acts_of {F : PH} {v : Value} {xs : List AcX} (h : RowV tyAct F v xs) : ∃ l : List Ax, OR F v l := by
  obtain ⟨css, h1, h2⟩ := h
  have key : ∃ l : List Ax, css = l.map oCs1 ∧ l.length = xs.length := by
    clear h1
    induction h2 with
    | nil => exact ⟨[], rfl, rfl⟩
    | cons h _ ih =>
      obtain ⟨l, rfl, hl⟩ := ih
      obtain ⟨y, rfl⟩ := ac_of2 h
      exact ⟨y :: l, rfl, by simp [hl]⟩
  obtain ⟨l, rfl, hl⟩ := key
  refine ⟨l, ?_⟩
  unfold OR oCs
  rw [hl]
  exact h1
theorem ev_neW {P : Program} {l : Env} {F : PH} {H : List Asrt} {d : Option Nat} {T T' U : TypeId} {pos : String} {af : Array Edge} {g : Option (Nat × Bool)} {x y : Operand} {a b : W} {r : Bool} (hx : opv l x = some (w32 a)) (hy : opv l y = some (w32 b)) (hr : (!decide (a = b)) = r) : Ev P ⟨d, .binOp .neq T x y T', U, pos, af, g⟩ l F H (.bool r) := by
  subst hr
  by_cases h : a = b
  · subst h
    rw [decide_eq_true rfl]
    exact ev_cmp_f (op := .neq) hx hy (show (a.toNat : Int) = a.toNat from rfl)
  · rw [decide_eq_false h]
    exact ev_cmp_t (op := .neq) hx hy (show ¬ ((a.toNat : Int) = b.toNat) from fun e => h (BitVec.eq_of_toNat_eq (by omega)))
/-! who lies -/
def lyM (n : Int) (ws : List UInt8) : List (Int × Value) := ws.foldl (fun M w => setK M ((w.toNat : Int) % n) (.bool true)) []
def lyB (n : Int) (ws : List UInt8) (who : Int) : Bool := ws.any fun w => decide (who = (w.toNat : Int) % n)
theorem lyM_snoc (n : Int) (ws : List UInt8) (w : UInt8) : lyM n (ws ++ [w]) = setK (lyM n ws) ((w.toNat : Int) % n) (.bool true) := by
  unfold lyM
  rw [List.foldl_append]
  rfl
theorem lyM_get (n : Int) (ws : List UInt8) (who : Int) : (getK (lyM n ws) who).getD (.bool false) = .bool (lyB n ws who) := by
  have key : ∀ (ws : List UInt8) (M : List (Int × Value)) (f : Int → Bool), (∀ a, (getK M a).getD (.bool false) = .bool (f a)) → ∀ a, (getK (ws.foldl (fun M w => setK M ((w.toNat : Int) % n) (.bool true)) M) a).getD (.bool false) = .bool (f a || lyB n ws a) := by
    intro ws
    induction ws with
    | nil => intro M f h a; rw [List.foldl_nil, h a]; simp [lyB]
    | cons w ws ih =>
      intro M f h a
      rw [List.foldl_cons, ih _ (fun a => f a || decide (a = (w.toNat : Int) % n)) (fun a => ?_) a]
      · unfold lyB
        rw [List.any_cons, Bool.or_assoc]
      · rw [getK_set]
        by_cases e : a = (w.toNat : Int) % n
        · rw [if_pos e, decide_eq_true e, Bool.or_true]; rfl
        · rw [if_neg e, decide_eq_false e, Bool.or_false]; exact h a
  have := key ws [] (fun _ => false) (fun _ => rfl) who
  rw [Bool.false_or] at this
  exact this
theorem lyB_list {n : Nat} {ws : List UInt8} {j : Nat} (h : lyB n ws j = true) : j ∈ ws.map fun w => w.toNat % n := by
  unfold lyB at h
  rw [List.any_eq_true] at h
  obtain ⟨w, hw, e⟩ := h
  have e := of_decide_eq_true e
  exact List.mem_map.2 ⟨w, hw, by omega⟩
end Go.Proofs.Ytdoaloimndehbaa
