/-
  The octets' functions that put numbers, the program's and the document's. Conditions are typed with each.
-/
import Derived.Test.YtekdmpbkcjjllaaDoorRows
import Derived.Test.YtekdmpbkcjjllaaDoorKn
namespace Go.Proofs.YtekdmpbkcjjllaaDoor
open Go.RowKit
set_option maxRecDepth 100000
theorem elB : Elem Tryd.prog 26 5 1 1 (.int .u8 0) := ⟨rfl, ⟨_, rfl, rfl, rfl, rfl, rfl, by decide⟩, rfl, rfl⟩
theorem u8s_len (bs : List UInt8) : (u8s bs).length = bs.length := by simp [u8s]
theorem u8s_append (bs cs : List UInt8) : u8s (bs ++ cs) = u8s bs ++ u8s cs := by simp [u8s]
theorem u8s_drop (bs : List UInt8) (n : Nat) : u8s (bs.drop n) = (u8s bs).drop n := by simp [u8s]
theorem u8s_take (bs : List UInt8) (n : Nat) : u8s (bs.take n) = (u8s bs).take n := by simp [u8s]
theorem u8s_ones (bs : List UInt8) : Ones (u8s bs) := fun v hv => by
  unfold u8s at hv
  obtain ⟨b, _, rfl⟩ := List.mem_map.1 hv
  rfl
/-- A row of bytes: the call's own; read by F; read by F or by what the call owns. -/
abbrev bytes (u : Value) (bs : List UInt8) : Asrt := own u 5 1 bs.length (u8s bs)
abbrev Byt (F : PH) (v : Value) (bs : List UInt8) : Prop := SliceV F 1 v bs.length (u8s bs)
abbrev RdB (F : PH) (H : List Asrt) (v : Value) (bs : List UInt8) : Prop := RdS F H 1 v bs.length (u8s bs)
def OwnForm (v : Value) (n : Nat) : Prop := ∃ a c, v = .slice a n c ∧ n ≤ c ∧ c ≤ maxLen ∧ (0 < n → ∃ b, a = some ⟨b, 0, none⟩)
theorem OwnForm.of {v : Value} {E size n : Nat} {xs : List Value} : ∀ h, own v E size n xs h → OwnForm v n := fun h ho => by
  obtain ⟨_, h1⟩ := ho
  rcases h1 with ⟨e, e2, _⟩ | ⟨g, cap, cur, e, _, h2, h3, _⟩
  · subst e2; exact ⟨none, 0, e, Nat.le_refl _, by unfold maxLen; omega, fun hb => absurd hb (by omega)⟩
  · exact ⟨_, cap, e, h2, h3, fun _ => ⟨g, rfl⟩⟩
theorem RdB.own {F : PH} {H Hr : List Asrt} {v : Value} {bs : List UInt8} (hf : OwnForm v bs.length) (p : Pick (bytes v bs) H Hr) : RdB F H v bs := by
  obtain ⟨a, c, rfl, hn, _, ha⟩ := hf
  exact RdS.own p hn (by rw [u8s_len, Nat.mul_one]) ha
theorem Sat.turn {F : PH} {A A' : Asrt} {H : List Asrt} {w : World} (hA : ∀ h, A h → A' h) (s : Sat F (A :: H) w) : Sat F (A' :: H) w := by
  obtain ⟨_, ⟨h, r, h1, hr, hhr, rfl⟩, hd, hl⟩ := s
  exact ⟨_, ⟨h, r, hA h h1, hr, hhr, rfl⟩, hd, hl⟩
theorem blk_own {b E size n : Nat} {cs : List Value} (hl : cs.length = n * size) (hm : n ≤ maxLen) : ∀ h, blk b E cs h → own (.slice (some ⟨b, 0, none⟩) n n) E size n cs h := fun h hA =>
  ⟨hl, .inr ⟨b, n, cs.toArray, rfl, hA, Nat.le_refl _, hm, by simp [hl], by simp [← hl]⟩⟩
theorem Ev'.mono {P : Program} {o : Oper} {l : Env} {F : PH} {H : List Asrt} {Q Q' : Value → PH → List Asrt → Prop} (h : Ev' P o l F H Q) (hq : ∀ v F' H', Q v F' H' → ∃ H'', Q' v F' H'' ∧ ∀ w, Sat F' H' w → Sat F' H'' w) : Ev' P o l F H Q' := .of fun N a w ha hs => by
  obtain ⟨nx, w', v, F', H', h1, h2, h3, h4, h5, h6⟩ := h.out N a w ha hs
  obtain ⟨H'', h7, h8⟩ := hq v F' H' h5
  exact ⟨nx, w', v, F', H'', h1, h2, h3, h4, h7, h8 w' h6⟩
section
variable {P : Program} {l : Env} {F : PH} {H Hr H' : List Asrt} {d : Option Nat} {T T' U E : TypeId} {pos : String} {af : Array Edge} {gd : Option (Nat × Bool)} {x y z : Operand} {size bytes_ : Nat} {zv : Value}
theorem ev_empty (he : Elem P T E size bytes_ zv) : Ev' P ⟨d, .buildSlice T 0 #[], U, pos, af, gd⟩ l F H fun u F' H' => F = F' ∧ (∃ b, u = .slice (some ⟨b, 0, none⟩) 0 0) ∧ H' = own u E size 0 [] :: H := by
  obtain ⟨hz, hzl⟩ := he.zs
  refine (ev_buildSlice (n := 0) (ps := []) (vs := []) rfl he.es hz hzl (by simp) (r := []) (by simp) .nil).mono ?_
  rintro v F' H' ⟨rfl, b, rfl, rfl⟩
  exact ⟨_, ⟨rfl, ⟨b, rfl⟩, rfl⟩, fun w s => s.turn (blk_own (by simp) (by unfold maxLen; omega))⟩
end
section
variable {l : Env} {F : PH} {H Hr H' : List Asrt} {d : Option Nat} {T T' U : TypeId} {pos : String} {af : Array Edge} {gd : Option (Nat × Bool)} {x y z : Operand}
theorem eb_empty : Ev' Tryd.prog ⟨d, .buildSlice 26 0 #[], U, pos, af, gd⟩ l F H fun u F' H' => F = F' ∧ (∃ b, u = .slice (some ⟨b, 0, none⟩) 0 0) ∧ H' = bytes u [] :: H := ev_empty elB
theorem eb_append {v sv : Value} {bs cs : List UInt8} {K : Value → List Asrt} (hx : opv l x = some v) (hy : opv l y = some sv) (hr : RdB F H sv cs) (hb : bs.length + cs.length ≤ 140737488355328) (hu : ∀ v', Upd (bytes v bs) (bytes v' (bs ++ cs)) H (K v')) :
    Ev' Tryd.prog ⟨d, .call { callee := .builtin .append, args := #[x, y], argTypes := #[26, 26] }, U, pos, af, gd⟩ l F H fun u F' H' => F = F' ∧ (u = .slice none 0 0 ↔ v = .slice none 0 0 ∧ cs.length = 0) ∧ H' = K u :=
  ev_append_s (n := bs.length) (xs := u8s bs) hx hy elB hr (u8s_ones cs) (by omega) (fun v' => by have := hu v'; unfold bytes at this; rwa [u8s_append, List.length_append] at this)
theorem eb_append_fresh {a : Option Addr} {c : Nat} {sv : Value} {bs cs : List UInt8} (hx : opv l x = some (.slice a bs.length c)) (hy : opv l y = some sv) (hr0 : RdB F H (.slice a bs.length c) bs) (hr : RdB F H sv cs) (hg : c < bs.length + cs.length) (hb : bs.length + cs.length ≤ 140737488355328) :
    Ev' Tryd.prog ⟨d, .call { callee := .builtin .append, args := #[x, y], argTypes := #[26, 26] }, U, pos, af, gd⟩ l F H fun u F' H' => F = F' ∧ u ≠ .slice none 0 0 ∧ H' = bytes u (bs ++ cs) :: H := by
  unfold bytes
  rw [u8s_append, List.length_append]
  exact ev_append_fresh hx hy elB hr0 hr (u8s_ones cs) hg (by omega)
theorem eb_string {v : Value} {bs : List UInt8} (hx : opv l x = some v) (hr : RdB F H v bs) : Ev Tryd.prog ⟨d, .convert 26 9 x, U, pos, af, gd⟩ l F H (.string (strOf bs)) := ev_bytes_string hx hr rfl rfl rfl
end
/-- May a number have n bytes? -/
def sizeB (n : Int) : Bool := decide (n = 1) || decide (n = 2) || decide (n = 4) || decide (n = 8)
theorem sizeB_cases {n : Int} (h : sizeB n = true) : n = 1 ∨ n = 2 ∨ n = 4 ∨ n = 8 := by simp [sizeB] at h; omega
theorem ev_and_of {P : Program} {l : Env} {F : PH} {H : List Asrt} {d : Option Nat} {T T' U : TypeId} {pos : String} {af : Array Edge} {g : Option (Nat × Bool)} {x y : Operand} {k : IntKind} {m n r : Int} (hx : opv l x = some (.int k m)) (hy : opv l y = some (.int k n))
    (h : k.wrap ((BitVec.ofInt k.bits m &&& BitVec.ofInt k.bits n).toNat : Int) = r) : Ev P ⟨d, .binOp .and T x y T', U, pos, af, g⟩ l F H (.int k r) := .of fun ρ hρ w _ => by
  have e1 := hρ _ _ hx
  have e2 := hρ _ _ hy
  refine run_v (s := do eqGuard .and T x y (ρ x) (ρ y); binOp .and T (ρ x) (ρ y)) ?_
  rw [e1, e2]
  have hb : (Op.intBits .and k m n).run P w = .ok (.int k r) w := by rw [← h]; rfl
  simpa [eqGuard, binOp, go_sem] using hb
end Go.Proofs.YtekdmpbkcjjllaaDoor
