/-
  The octets' functions that put numbers, the program's and the document's. Conditions are typed with each.
  The octets' Put, the program's and the document's. Conditions are typed with each.
  The document's Put, and both Rows. Conditions are typed with each.
-/
import Derived.Test.YtjjjckmpkldgnaaGreatDoorRows
import Derived.Test.YtjjjckmpkldgnaaGreatDoorKja
namespace Go.Proofs.YtjjjckmpkldgnaaGreatDoor
open Go.RowKit
set_option maxRecDepth 100000
theorem elB : Elem Tryz.prog 23 5 1 1 (.int .u8 0) := ⟨rfl, ⟨_, rfl, rfl, rfl, rfl, rfl, by decide⟩, rfl, rfl⟩
theorem u8s_len (bs : List UInt8) : (u8s bs).length = bs.length := by simp [u8s]
theorem u8s_append (bs cs : List UInt8) : u8s (bs ++ cs) = u8s bs ++ u8s cs := by simp [u8s]
theorem u8s_drop (bs : List UInt8) (n : Nat) : u8s (bs.drop n) = (u8s bs).drop n := by simp [u8s]
theorem u8s_ones (bs : List UInt8) : Ones (u8s bs) := fun v hv => by
  unfold u8s at hv
  obtain ⟨b, _, rfl⟩ := List.mem_map.1 hv
  rfl
/-- A row of bytes: the call's own; read by F; read by F or by what the call owns. -/
abbrev bytes (u : Value) (bs : List UInt8) : Asrt := own u 5 1 bs.length (u8s bs)
abbrev Byt (F : PH) (v : Value) (bs : List UInt8) : Prop := SliceV F 1 v bs.length (u8s bs)
abbrev RdB (F : PH) (H : List Asrt) (v : Value) (bs : List UInt8) : Prop := RdS F H 1 v bs.length (u8s bs)
def OwnForm (v : Value) (n : Nat) : Prop := ∃ a c, v = .slice a n c ∧ n ≤ c ∧ c ≤ maxLen ∧ (0 < n → ∃ b, a = some ⟨b, 0, none⟩)
theorem OwnForm.of {v : Value} {E size n : Nat} {xs : List Value} : ∀ h, own v E size n xs h → OwnForm v n := fun h ho => by
  obtain ⟨_, h1⟩ := ho
  rcases h1 with ⟨e, e2, _⟩ | ⟨g, cap, cur, e, _, h2, h3, _⟩
  · subst e2; exact ⟨none, 0, e, Nat.le_refl _, by unfold maxLen; omega, fun hb => absurd hb (by omega)⟩
  · exact ⟨_, cap, e, h2, h3, fun _ => ⟨g, rfl⟩⟩
theorem RdB.own {F : PH} {H Hr : List Asrt} {v : Value} {bs : List UInt8} (hf : OwnForm v bs.length) (p : Pick (bytes v bs) H Hr) : RdB F H v bs := by
  obtain ⟨a, c, rfl, hn, _, ha⟩ := hf
  exact RdS.own p hn (by rw [u8s_len, Nat.mul_one]) ha
theorem Sat.turn {F : PH} {A A' : Asrt} {H : List Asrt} {w : World} (hA : ∀ h, A h → A' h) (s : Sat F (A :: H) w) : Sat F (A' :: H) w := by
  obtain ⟨_, ⟨h, r, h1, hr, hhr, rfl⟩, hd, hl⟩ := s
  exact ⟨_, ⟨h, r, hA h h1, hr, hhr, rfl⟩, hd, hl⟩
theorem blk_own {b E size n : Nat} {cs : List Value} (hl : cs.length = n * size) (hm : n ≤ maxLen) : ∀ h, blk b E cs h → own (.slice (some ⟨b, 0, none⟩) n n) E size n cs h := fun h hA =>
  ⟨hl, .inr ⟨b, n, cs.toArray, rfl, hA, Nat.le_refl _, hm, by simp [hl], by simp [← hl]⟩⟩
theorem Ev'.mono {P : Program} {o : Oper} {l : Env} {F : PH} {H : List Asrt} {Q Q' : Value → PH → List Asrt → Prop} (h : Ev' P o l F H Q) (hq : ∀ v F' H', Q v F' H' → ∃ H'', Q' v F' H'' ∧ ∀ w, Sat F' H' w → Sat F' H'' w) : Ev' P o l F H Q' := .of fun N a w ha hs => by
  obtain ⟨nx, w', v, F', H', h1, h2, h3, h4, h5, h6⟩ := h.out N a w ha hs
  obtain ⟨H'', h7, h8⟩ := hq v F' H' h5
  exact ⟨nx, w', v, F', H'', h1, h2, h3, h4, h7, h8 w' h6⟩
section
variable {P : Program} {l : Env} {F : PH} {H Hr H' : List Asrt} {d : Option Nat} {T T' U E : TypeId} {pos : String} {af : Array Edge} {gd : Option (Nat × Bool)} {x y z : Operand} {size bytes_ : Nat} {zv : Value}
theorem ev_empty (he : Elem P T E size bytes_ zv) : Ev' P ⟨d, .buildSlice T 0 #[], U, pos, af, gd⟩ l F H fun u F' H' => F = F' ∧ (∃ b, u = .slice (some ⟨b, 0, none⟩) 0 0) ∧ H' = own u E size 0 [] :: H := by
  obtain ⟨hz, hzl⟩ := he.zs
  refine (ev_buildSlice (n := 0) (ps := []) (vs := []) rfl he.es hz hzl (by simp) (r := []) (by simp) .nil).mono ?_
  rintro v F' H' ⟨rfl, b, rfl, rfl⟩
  exact ⟨_, ⟨rfl, ⟨b, rfl⟩, rfl⟩, fun w s => s.turn (blk_own (by simp) (by unfold maxLen; omega))⟩
end
section
variable {l : Env} {F : PH} {H Hr H' : List Asrt} {d : Option Nat} {T T' U : TypeId} {pos : String} {af : Array Edge} {gd : Option (Nat × Bool)} {x y z : Operand}
theorem eb_empty : Ev' Tryz.prog ⟨d, .buildSlice 23 0 #[], U, pos, af, gd⟩ l F H fun u F' H' => F = F' ∧ (∃ b, u = .slice (some ⟨b, 0, none⟩) 0 0) ∧ H' = bytes u [] :: H := ev_empty elB
theorem eb_append {v sv : Value} {bs cs : List UInt8} {K : Value → List Asrt} (hx : opv l x = some v) (hy : opv l y = some sv) (hr : RdB F H sv cs) (hb : bs.length + cs.length ≤ 140737488355328) (hu : ∀ v', Upd (bytes v bs) (bytes v' (bs ++ cs)) H (K v')) :
    Ev' Tryz.prog ⟨d, .call { callee := .builtin .append, args := #[x, y], argTypes := #[23, 23] }, U, pos, af, gd⟩ l F H fun u F' H' => F = F' ∧ (u = .slice none 0 0 ↔ v = .slice none 0 0 ∧ cs.length = 0) ∧ H' = K u :=
  ev_append_s (n := bs.length) (xs := u8s bs) hx hy elB hr (u8s_ones cs) (by omega) (fun v' => by have := hu v'; unfold bytes at this; rwa [u8s_append, List.length_append] at this)
theorem eb_append_fresh {a : Option Addr} {c : Nat} {sv : Value} {bs cs : List UInt8} (hx : opv l x = some (.slice a bs.length c)) (hy : opv l y = some sv) (hr0 : RdB F H (.slice a bs.length c) bs) (hr : RdB F H sv cs) (hg : c < bs.length + cs.length) (hb : bs.length + cs.length ≤ 140737488355328) :
    Ev' Tryz.prog ⟨d, .call { callee := .builtin .append, args := #[x, y], argTypes := #[23, 23] }, U, pos, af, gd⟩ l F H fun u F' H' => F = F' ∧ u ≠ .slice none 0 0 ∧ H' = bytes u (bs ++ cs) :: H := by
  unfold bytes
  rw [u8s_append, List.length_append]
  exact ev_append_fresh hx hy elB hr0 hr (u8s_ones cs) hg (by omega)
theorem eb_string {v : Value} {bs : List UInt8} (hx : opv l x = some v) (hr : RdB F H v bs) : Ev Tryz.prog ⟨d, .convert 23 9 x, U, pos, af, gd⟩ l F H (.string (strOf bs)) := ev_bytes_string hx hr rfl rfl rfl
end
/-- May a number have n bytes? -/
def sizeB (n : Int) : Bool := decide (n = 1) || decide (n = 2) || decide (n = 4) || decide (n = 8)
theorem sizeB_cases {n : Int} (h : sizeB n = true) : n = 1 ∨ n = 2 ∨ n = 4 ∨ n = 8 := by simp [sizeB] at h; omega
theorem ev_and_of {P : Program} {l : Env} {F : PH} {H : List Asrt} {d : Option Nat} {T T' U : TypeId} {pos : String} {af : Array Edge} {g : Option (Nat × Bool)} {x y : Operand} {k : IntKind} {m n r : Int} (hx : opv l x = some (.int k m)) (hy : opv l y = some (.int k n))
    (h : k.wrap ((BitVec.ofInt k.bits m &&& BitVec.ofInt k.bits n).toNat : Int) = r) : Ev P ⟨d, .binOp .and T x y T', U, pos, af, g⟩ l F H (.int k r) := .of fun ρ hρ w _ => by
  have e1 := hρ _ _ hx
  have e2 := hρ _ _ hy
  refine run_v (s := do eqGuard .and T x y (ρ x) (ρ y); binOp .and T (ρ x) (ρ y)) ?_
  rw [e1, e2]
  have hb : (Op.intBits .and k m n).run P w = .ok (.int k r) w := by rw [← h]; rfl
  simpa [eqGuard, binOp, go_sem] using hb
set_option maxHeartbeats 2000000 in
theorem size_spec (n : Int) (F : PH) : Pure Tryz.prog 193 [.int .i64 n] F (.bool (sizeB n)) := by
  refine Spec.of1 Tryz.func193 rfl rfl fun X w0 => ?_
  by_cases h : n ≤ 0 ∨ 8 < n
  · have hf : sizeB n = false := by simp [sizeB]; omega
    rw [hf]
    by_cases h1 : n ≤ 0
    · repeat (first|refine zJ rfl rfl ?_|refine jr rfl ?_|refine jn ?_|refine zM rfl rfl ?_|(refine zC rfl rfl ?_ rfl ?_;omega)|(refine zD rfl rfl ?_ rfl ?_;omega)|(refine zP rfl ?_ rfl ?_;omega)|refine zG rfl rfl rfl rfl ?_|(refine jdq rfl rfl ?_ ?_ ?_;kernel_rfl;kernel_rfl)|refine zB rfl rfl rfl (by repeat constructor) rfl ?_)
      exact J_ret1 rfl rfl [] rfl (PH.ler _) ⟨rfl, rfl⟩
    · repeat (first|refine zJ rfl rfl ?_|refine jr rfl ?_|refine jn ?_|refine zM rfl rfl ?_|(refine zC rfl rfl ?_ rfl ?_;omega)|(refine zD rfl rfl ?_ rfl ?_;omega)|(refine zP rfl ?_ rfl ?_;omega)|refine zG rfl rfl rfl rfl ?_|(refine jdq rfl rfl ?_ ?_ ?_;kernel_rfl;kernel_rfl)|refine zB rfl rfl rfl (by repeat constructor) rfl ?_)
      exact J_ret1 rfl rfl [] rfl (PH.ler _) ⟨rfl, rfl⟩
  · have hc : n = 1 ∨ n = 2 ∨ n = 3 ∨ n = 4 ∨ n = 5 ∨ n = 6 ∨ n = 7 ∨ n = 8 := by omega
    rcases hc with rfl | rfl | rfl | rfl | rfl | rfl | rfl | rfl
    · repeat (first|refine zJ rfl rfl ?_|refine jr rfl ?_|refine jn ?_|refine zM rfl rfl ?_|(refine zC rfl rfl ?_ rfl ?_;omega)|(refine zD rfl rfl ?_ rfl ?_;omega)|(refine zP rfl ?_ rfl ?_;omega)|refine zG rfl rfl rfl rfl ?_|(refine jdq rfl rfl ?_ ?_ ?_;kernel_rfl;kernel_rfl)|refine zB rfl rfl rfl (by repeat constructor) rfl ?_)
      refine oS (ev_and_of (r := 0) rfl rfl (by decide)) rfl ?_
      repeat (first|refine zJ rfl rfl ?_|refine jr rfl ?_|refine jn ?_|refine zM rfl rfl ?_|(refine zC rfl rfl ?_ rfl ?_;omega)|(refine zD rfl rfl ?_ rfl ?_;omega)|(refine zP rfl ?_ rfl ?_;omega)|refine zG rfl rfl rfl rfl ?_|(refine jdq rfl rfl ?_ ?_ ?_;kernel_rfl;kernel_rfl)|refine zB rfl rfl rfl (by repeat constructor) rfl ?_)
      exact J_ret1 rfl rfl [] rfl (PH.ler _) ⟨rfl, rfl⟩
    · repeat (first|refine zJ rfl rfl ?_|refine jr rfl ?_|refine jn ?_|refine zM rfl rfl ?_|(refine zC rfl rfl ?_ rfl ?_;omega)|(refine zD rfl rfl ?_ rfl ?_;omega)|(refine zP rfl ?_ rfl ?_;omega)|refine zG rfl rfl rfl rfl ?_|(refine jdq rfl rfl ?_ ?_ ?_;kernel_rfl;kernel_rfl)|refine zB rfl rfl rfl (by repeat constructor) rfl ?_)
      refine oS (ev_and_of (r := 0) rfl rfl (by decide)) rfl ?_
      repeat (first|refine zJ rfl rfl ?_|refine jr rfl ?_|refine jn ?_|refine zM rfl rfl ?_|(refine zC rfl rfl ?_ rfl ?_;omega)|(refine zD rfl rfl ?_ rfl ?_;omega)|(refine zP rfl ?_ rfl ?_;omega)|refine zG rfl rfl rfl rfl ?_|(refine jdq rfl rfl ?_ ?_ ?_;kernel_rfl;kernel_rfl)|refine zB rfl rfl rfl (by repeat constructor) rfl ?_)
      exact J_ret1 rfl rfl [] rfl (PH.ler _) ⟨rfl, rfl⟩
    · repeat (first|refine zJ rfl rfl ?_|refine jr rfl ?_|refine jn ?_|refine zM rfl rfl ?_|(refine zC rfl rfl ?_ rfl ?_;omega)|(refine zD rfl rfl ?_ rfl ?_;omega)|(refine zP rfl ?_ rfl ?_;omega)|refine zG rfl rfl rfl rfl ?_|(refine jdq rfl rfl ?_ ?_ ?_;kernel_rfl;kernel_rfl)|refine zB rfl rfl rfl (by repeat constructor) rfl ?_)
      refine oS (ev_and_of (r := 2) rfl rfl (by decide)) rfl ?_
      repeat (first|refine zJ rfl rfl ?_|refine jr rfl ?_|refine jn ?_|refine zM rfl rfl ?_|(refine zC rfl rfl ?_ rfl ?_;omega)|(refine zD rfl rfl ?_ rfl ?_;omega)|(refine zP rfl ?_ rfl ?_;omega)|refine zG rfl rfl rfl rfl ?_|(refine jdq rfl rfl ?_ ?_ ?_;kernel_rfl;kernel_rfl)|refine zB rfl rfl rfl (by repeat constructor) rfl ?_)
      exact J_ret1 rfl rfl [] rfl (PH.ler _) ⟨rfl, rfl⟩
    · repeat (first|refine zJ rfl rfl ?_|refine jr rfl ?_|refine jn ?_|refine zM rfl rfl ?_|(refine zC rfl rfl ?_ rfl ?_;omega)|(refine zD rfl rfl ?_ rfl ?_;omega)|(refine zP rfl ?_ rfl ?_;omega)|refine zG rfl rfl rfl rfl ?_|(refine jdq rfl rfl ?_ ?_ ?_;kernel_rfl;kernel_rfl)|refine zB rfl rfl rfl (by repeat constructor) rfl ?_)
      refine oS (ev_and_of (r := 0) rfl rfl (by decide)) rfl ?_
      repeat (first|refine zJ rfl rfl ?_|refine jr rfl ?_|refine jn ?_|refine zM rfl rfl ?_|(refine zC rfl rfl ?_ rfl ?_;omega)|(refine zD rfl rfl ?_ rfl ?_;omega)|(refine zP rfl ?_ rfl ?_;omega)|refine zG rfl rfl rfl rfl ?_|(refine jdq rfl rfl ?_ ?_ ?_;kernel_rfl;kernel_rfl)|refine zB rfl rfl rfl (by repeat constructor) rfl ?_)
      exact J_ret1 rfl rfl [] rfl (PH.ler _) ⟨rfl, rfl⟩
    · repeat (first|refine zJ rfl rfl ?_|refine jr rfl ?_|refine jn ?_|refine zM rfl rfl ?_|(refine zC rfl rfl ?_ rfl ?_;omega)|(refine zD rfl rfl ?_ rfl ?_;omega)|(refine zP rfl ?_ rfl ?_;omega)|refine zG rfl rfl rfl rfl ?_|(refine jdq rfl rfl ?_ ?_ ?_;kernel_rfl;kernel_rfl)|refine zB rfl rfl rfl (by repeat constructor) rfl ?_)
      refine oS (ev_and_of (r := 4) rfl rfl (by decide)) rfl ?_
      repeat (first|refine zJ rfl rfl ?_|refine jr rfl ?_|refine jn ?_|refine zM rfl rfl ?_|(refine zC rfl rfl ?_ rfl ?_;omega)|(refine zD rfl rfl ?_ rfl ?_;omega)|(refine zP rfl ?_ rfl ?_;omega)|refine zG rfl rfl rfl rfl ?_|(refine jdq rfl rfl ?_ ?_ ?_;kernel_rfl;kernel_rfl)|refine zB rfl rfl rfl (by repeat constructor) rfl ?_)
      exact J_ret1 rfl rfl [] rfl (PH.ler _) ⟨rfl, rfl⟩
    · repeat (first|refine zJ rfl rfl ?_|refine jr rfl ?_|refine jn ?_|refine zM rfl rfl ?_|(refine zC rfl rfl ?_ rfl ?_;omega)|(refine zD rfl rfl ?_ rfl ?_;omega)|(refine zP rfl ?_ rfl ?_;omega)|refine zG rfl rfl rfl rfl ?_|(refine jdq rfl rfl ?_ ?_ ?_;kernel_rfl;kernel_rfl)|refine zB rfl rfl rfl (by repeat constructor) rfl ?_)
      refine oS (ev_and_of (r := 4) rfl rfl (by decide)) rfl ?_
      repeat (first|refine zJ rfl rfl ?_|refine jr rfl ?_|refine jn ?_|refine zM rfl rfl ?_|(refine zC rfl rfl ?_ rfl ?_;omega)|(refine zD rfl rfl ?_ rfl ?_;omega)|(refine zP rfl ?_ rfl ?_;omega)|refine zG rfl rfl rfl rfl ?_|(refine jdq rfl rfl ?_ ?_ ?_;kernel_rfl;kernel_rfl)|refine zB rfl rfl rfl (by repeat constructor) rfl ?_)
      exact J_ret1 rfl rfl [] rfl (PH.ler _) ⟨rfl, rfl⟩
    · repeat (first|refine zJ rfl rfl ?_|refine jr rfl ?_|refine jn ?_|refine zM rfl rfl ?_|(refine zC rfl rfl ?_ rfl ?_;omega)|(refine zD rfl rfl ?_ rfl ?_;omega)|(refine zP rfl ?_ rfl ?_;omega)|refine zG rfl rfl rfl rfl ?_|(refine jdq rfl rfl ?_ ?_ ?_;kernel_rfl;kernel_rfl)|refine zB rfl rfl rfl (by repeat constructor) rfl ?_)
      refine oS (ev_and_of (r := 6) rfl rfl (by decide)) rfl ?_
      repeat (first|refine zJ rfl rfl ?_|refine jr rfl ?_|refine jn ?_|refine zM rfl rfl ?_|(refine zC rfl rfl ?_ rfl ?_;omega)|(refine zD rfl rfl ?_ rfl ?_;omega)|(refine zP rfl ?_ rfl ?_;omega)|refine zG rfl rfl rfl rfl ?_|(refine jdq rfl rfl ?_ ?_ ?_;kernel_rfl;kernel_rfl)|refine zB rfl rfl rfl (by repeat constructor) rfl ?_)
      exact J_ret1 rfl rfl [] rfl (PH.ler _) ⟨rfl, rfl⟩
    · repeat (first|refine zJ rfl rfl ?_|refine jr rfl ?_|refine jn ?_|refine zM rfl rfl ?_|(refine zC rfl rfl ?_ rfl ?_;omega)|(refine zD rfl rfl ?_ rfl ?_;omega)|(refine zP rfl ?_ rfl ?_;omega)|refine zG rfl rfl rfl rfl ?_|(refine jdq rfl rfl ?_ ?_ ?_;kernel_rfl;kernel_rfl)|refine zB rfl rfl rfl (by repeat constructor) rfl ?_)
      refine oS (ev_and_of (r := 0) rfl rfl (by decide)) rfl ?_
      repeat (first|refine zJ rfl rfl ?_|refine jr rfl ?_|refine jn ?_|refine zM rfl rfl ?_|(refine zC rfl rfl ?_ rfl ?_;omega)|(refine zD rfl rfl ?_ rfl ?_;omega)|(refine zP rfl ?_ rfl ?_;omega)|refine zG rfl rfl rfl rfl ?_|(refine jdq rfl rfl ?_ ?_ ?_;kernel_rfl;kernel_rfl)|refine zB rfl rfl rfl (by repeat constructor) rfl ?_)
      exact J_ret1 rfl rfl [] rfl (PH.ler _) ⟨rfl, rfl⟩
theorem clip_spec (a : Option Addr) (n c : Nat) (hn : n ≤ c) (F : PH) : Pure Tryz.prog 192 [.slice a n c] F (.slice a n n) := by
  refine Spec.of1 Tryz.func192 rfl rfl fun X w0 => ?_
  repeat (first|refine zJ rfl rfl ?_|refine jr rfl ?_|refine jn ?_|refine zM rfl rfl ?_|(refine zC rfl rfl ?_ rfl ?_;omega)|(refine zD rfl rfl ?_ rfl ?_;omega)|(refine zP rfl ?_ rfl ?_;omega)|refine zG rfl rfl rfl rfl ?_|(refine jdq rfl rfl ?_ ?_ ?_;kernel_rfl;kernel_rfl)|refine zB rfl rfl rfl (by repeat constructor) rfl ?_)
  refine oS (ev_slice_clip (hi := n) (m := n) rfl rfl rfl rfl (Nat.le_refl _) hn) rfl ?_
  repeat (first|refine zJ rfl rfl ?_|refine jr rfl ?_|refine jn ?_|refine zM rfl rfl ?_|(refine zC rfl rfl ?_ rfl ?_;omega)|(refine zD rfl rfl ?_ rfl ?_;omega)|(refine zP rfl ?_ rfl ?_;omega)|refine zG rfl rfl rfl rfl ?_|(refine jdq rfl rfl ?_ ?_ ?_;kernel_rfl;kernel_rfl)|refine zB rfl rfl rfl (by repeat constructor) rfl ?_)
  exact J_ret1 rfl rfl [] rfl (PH.ler _) ⟨rfl, rfl⟩
theorem clone_spec (a : Option Addr) (c : Nat) (bs : List UInt8) (F : PH) (h : Byt F (.slice a bs.length c) bs) (hn : bs.length ≤ 1099511627776) :
    Spec Tryz.prog 46 [.slice a bs.length c] F [] fun u F' H' => F = F' ∧ (u = .slice none 0 0 ↔ a = none) ∧ H' = [bytes u bs] := by
  refine Spec.of1 Tryz.func46 rfl rfl fun X w0 => ?_
  repeat (first|refine zJ rfl rfl ?_|refine jr rfl ?_|refine jn ?_|refine zM rfl rfl ?_|(refine zC rfl rfl ?_ rfl ?_;omega)|(refine zD rfl rfl ?_ rfl ?_;omega)|(refine zP rfl ?_ rfl ?_;omega)|refine zG rfl rfl rfl rfl ?_|(refine jdq rfl rfl ?_ ?_ ?_;kernel_rfl;kernel_rfl)|refine zB rfl rfl rfl (by repeat constructor) rfl ?_)
  refine oS (ev_slice_eql_nil rfl rfl rfl) rfl ?_
  cases a with
  | none =>
    have h0 : bs = [] := by
      cases bs with
      | nil => rfl
      | cons b bs => obtain ⟨_, a, c, e, _, h2⟩ := h; cases e; obtain ⟨_, _, h3, _⟩ := h2 (by simp); cases h3
    subst h0
    repeat (first|refine zJ rfl rfl ?_|refine jr rfl ?_|refine jn ?_|refine zM rfl rfl ?_|(refine zC rfl rfl ?_ rfl ?_;omega)|(refine zD rfl rfl ?_ rfl ?_;omega)|(refine zP rfl ?_ rfl ?_;omega)|refine zG rfl rfl rfl rfl ?_|(refine jdq rfl rfl ?_ ?_ ?_;kernel_rfl;kernel_rfl)|refine zB rfl rfl rfl (by repeat constructor) rfl ?_)
    refine J_own_nil 5 1 ?_
    exact J_ret1 rfl rfl [bytes (.slice none 0 0) []] rfl (PH.ler _) ⟨rfl, by simp, rfl⟩
  | some ad =>
    repeat (first|refine zJ rfl rfl ?_|refine jr rfl ?_|refine jn ?_|refine zM rfl rfl ?_|(refine zC rfl rfl ?_ rfl ?_;omega)|(refine zD rfl rfl ?_ rfl ?_;omega)|(refine zP rfl ?_ rfl ?_;omega)|refine zG rfl rfl rfl rfl ?_|(refine jdq rfl rfl ?_ ?_ ?_;kernel_rfl;kernel_rfl)|refine zB rfl rfl rfl (by repeat constructor) rfl ?_)
    refine oE eb_empty rfl ?_
    rintro u _ _ _ ⟨rfl, ⟨b, rfl⟩, rfl⟩
    repeat (first|refine zJ rfl rfl ?_|refine jr rfl ?_|refine jn ?_|refine zM rfl rfl ?_|(refine zC rfl rfl ?_ rfl ?_;omega)|(refine zD rfl rfl ?_ rfl ?_;omega)|(refine zP rfl ?_ rfl ?_;omega)|refine zG rfl rfl rfl rfl ?_|(refine jdq rfl rfl ?_ ?_ ?_;kernel_rfl;kernel_rfl)|refine zB rfl rfl rfl (by repeat constructor) rfl ?_)
    refine oE (eb_append (bs := []) (cs := bs) (K := fun v' => bytes v' bs :: X) rfl rfl h.rds (by simp; omega) (fun v' => .here)) rfl ?_
    rintro u _ _ _ ⟨rfl, hu, rfl⟩
    repeat (first|refine zJ rfl rfl ?_|refine jr rfl ?_|refine jn ?_|refine zM rfl rfl ?_|(refine zC rfl rfl ?_ rfl ?_;omega)|(refine zD rfl rfl ?_ rfl ?_;omega)|(refine zP rfl ?_ rfl ?_;omega)|refine zG rfl rfl rfl rfl ?_|(refine jdq rfl rfl ?_ ?_ ?_;kernel_rfl;kernel_rfl)|refine zB rfl rfl rfl (by repeat constructor) rfl ?_)
    exact J_ret1 rfl rfl [bytes u bs] rfl (PH.ler _) ⟨rfl, by simp [hu], rfl⟩
end Go.Proofs.YtjjjckmpkldgnaaGreatDoor
namespace Go.Proofs.YtjjjckmpkldgnaaGreatDoor
open Go.RowKit
set_option maxRecDepth 100000
theorem wrap_u8 (x : Nat) : IntKind.u8.wrap (x : Int) = ((UInt8.ofNat x).toNat : Int) := by
  simp [IntKind.wrap, IntKind.bits, IntKind.signed]
def be8 (v : Nat) : List UInt8 := (List.range 8).map fun i => UInt8.ofNat (v >>> (56 - 8 * i))
/-- What Put puts. -/
def putB (v : Nat) (n : Int) : List UInt8 := if sizeB n then (be8 v).drop (8 - n.toNat) else []
theorem be8_len (v : Nat) : (be8 v).length = 8 := by simp [be8]
def wr8 (v j : Nat) : List Value := u8s ((be8 v).take j) ++ List.replicate (8 - j) (.int .u8 0)
theorem wr8_set (v j : Nat) (hj : j < 8) : (wr8 v j).set j (.int .u8 (((UInt8.ofNat (v >>> (56 - 8 * j))).toNat : Nat) : Int)) = wr8 v (j + 1) := by
  have : j = 0 ∨ j = 1 ∨ j = 2 ∨ j = 3 ∨ j = 4 ∨ j = 5 ∨ j = 6 ∨ j = 7 := by omega
  rcases this with rfl | rfl | rfl | rfl | rfl | rfl | rfl | rfl <;> rfl
theorem wr8_len (v j : Nat) (hj : j ≤ 8) : (wr8 v j).length = 8 := by simp [wr8, u8s, be8]; omega
theorem wr8_8 (v : Nat) : wr8 v 8 = u8s (be8 v) := by
  unfold wr8
  rw [List.take_of_length_le (by rw [be8_len]; exact Nat.le_refl _)]
  simp
set_option maxHeartbeats 4000000 in
theorem put_spec (a : Option Addr) (c v : Nat) (n : Int) (bs : List UInt8) (F : PH) (h : Byt F (.slice a bs.length c) bs) (hc : bs.length ≤ c) (hv : v < 2 ^ 64) (hn : bs.length ≤ 1099511627776) :
    Spec Tryz.prog 100 [.slice a bs.length c, .int .u64 v, .int .i64 n] F [] fun u F' H' => F = F' ∧ H' = [bytes u (bs ++ putB v n)] := by
  have hclip : Byt F (.slice a bs.length bs.length) bs := by
    obtain ⟨h1, a', c', e, h2, h3⟩ := h
    cases e
    exact ⟨h1, a, _, rfl, Nat.le_refl _, h3⟩
  refine Spec.of3 Tryz.func100 rfl rfl fun X w0 => ?_
  repeat (first|refine zJ rfl rfl ?_|refine jr rfl ?_|refine jn ?_|refine zM rfl rfl ?_|(refine zC rfl rfl ?_ rfl ?_;omega)|(refine zD rfl rfl ?_ rfl ?_;omega)|(refine zP rfl ?_ rfl ?_;omega)|refine zG rfl rfl rfl rfl ?_|(refine jdq rfl rfl ?_ ?_ ?_;kernel_rfl;kernel_rfl)|refine zB rfl rfl rfl (by repeat constructor) rfl ?_)
  refine oP (clip_spec a bs.length c hc F) Tryz.call192 rfl rfl ?_
  repeat (first|refine zJ rfl rfl ?_|refine jr rfl ?_|refine jn ?_|refine zM rfl rfl ?_|(refine zC rfl rfl ?_ rfl ?_;omega)|(refine zD rfl rfl ?_ rfl ?_;omega)|(refine zP rfl ?_ rfl ?_;omega)|refine zG rfl rfl rfl rfl ?_|(refine jdq rfl rfl ?_ ?_ ?_;kernel_rfl;kernel_rfl)|refine zB rfl rfl rfl (by repeat constructor) rfl ?_)
  have hsz := size_spec n F
  cases hb : sizeB n with
  | false =>
    rw [hb] at hsz
    refine oP (hsz) Tryz.call193 rfl rfl ?_
    repeat (first|refine zJ rfl rfl ?_|refine jr rfl ?_|refine jn ?_|refine zM rfl rfl ?_|(refine zC rfl rfl ?_ rfl ?_;omega)|(refine zD rfl rfl ?_ rfl ?_;omega)|(refine zP rfl ?_ rfl ?_;omega)|refine zG rfl rfl rfl rfl ?_|(refine jdq rfl rfl ?_ ?_ ?_;kernel_rfl;kernel_rfl)|refine zB rfl rfl rfl (by repeat constructor) rfl ?_)
    refine oC (Hc := []) (Hr := X) (clone_spec a bs.length bs F hclip hn) Tryz.call46 rfl rfl (fun _ s => s) ?_
    rintro u _ _ _ ⟨rfl, _, rfl⟩
    repeat (first|refine zJ rfl rfl ?_|refine jr rfl ?_|refine jn ?_|refine zM rfl rfl ?_|(refine zC rfl rfl ?_ rfl ?_;omega)|(refine zD rfl rfl ?_ rfl ?_;omega)|(refine zP rfl ?_ rfl ?_;omega)|refine zG rfl rfl rfl rfl ?_|(refine jdq rfl rfl ?_ ?_ ?_;kernel_rfl;kernel_rfl)|refine zB rfl rfl rfl (by repeat constructor) rfl ?_)
    exact J_ret1 rfl rfl [bytes u (bs ++ putB v n)] (by simp [putB, hb]) (PH.ler _) ⟨rfl, rfl⟩
  | true =>
    rw [hb] at hsz
    have hcases := sizeB_cases hb
    obtain ⟨m, rfl⟩ : ∃ m : Nat, n = (m : Int) := ⟨n.toNat, by omega⟩
    refine oP (hsz) Tryz.call193 rfl rfl ?_
    repeat (first|refine zJ rfl rfl ?_|refine jr rfl ?_|refine jn ?_|refine zM rfl rfl ?_|(refine zC rfl rfl ?_ rfl ?_;omega)|(refine zD rfl rfl ?_ rfl ?_;omega)|(refine zP rfl ?_ rfl ?_;omega)|refine zG rfl rfl rfl rfl ?_|(refine jdq rfl rfl ?_ ?_ ?_;kernel_rfl;kernel_rfl)|refine zB rfl rfl rfl (by repeat constructor) rfl ?_)
    refine oE (ev_alloc rfl) rfl ?_
    rintro _ _ _ _ ⟨rfl, bw, rfl, rfl⟩
    repeat (first|refine zJ rfl rfl ?_|refine jr rfl ?_|refine jn ?_|refine zM rfl rfl ?_|(refine zC rfl rfl ?_ rfl ?_;omega)|(refine zD rfl rfl ?_ rfl ?_;omega)|(refine zP rfl ?_ rfl ?_;omega)|refine zG rfl rfl rfl rfl ?_|(refine jdq rfl rfl ?_ ?_ ?_;kernel_rfl;kernel_rfl)|refine zB rfl rfl rfl (by repeat constructor) rfl ?_)
    refine J_loop (ι := Nat) (fun j => j ≤ 8) (fun j => 8 - j) (fun j => [(0, .slice a bs.length bs.length), (1, .int .u64 v), (2, .int .i64 m), (7, .pointer (some ⟨bw, 0, none⟩)), (16, .int .i64 j)]) (fun _ => F)
      (fun j => blk bw 304 (wr8 v j) :: X) 0 (Nat.zero_le _) ⟨⟨rfl, rfl, rfl, rfl, rfl, trivial⟩, fun _ h => h⟩ ?_
    intro j hj
    by_cases hlt : j < 8
    · repeat (first|refine zJ rfl rfl ?_|refine jr rfl ?_|refine jn ?_|refine zM rfl rfl ?_|(refine zC rfl rfl ?_ rfl ?_;omega)|(refine zD rfl rfl ?_ rfl ?_;omega)|(refine zP rfl ?_ rfl ?_;omega)|refine zG rfl rfl rfl rfl ?_|(refine jdq rfl rfl ?_ ?_ ?_;kernel_rfl;kernel_rfl)|refine zB rfl rfl rfl (by repeat constructor) rfl ?_)
      refine oS (ev_shr (n := 56 - 8 * j) rfl (by rw [show ((56 - 8 * j : Nat) : Int) = 56 - 8 * (j : Int) from by omega]; rfl) hv) rfl ?_
      repeat (first|refine zJ rfl rfl ?_|refine jr rfl ?_|refine jn ?_|refine zM rfl rfl ?_|(refine zC rfl rfl ?_ rfl ?_;omega)|(refine zD rfl rfl ?_ rfl ?_;omega)|(refine zP rfl ?_ rfl ?_;omega)|refine zG rfl rfl rfl rfl ?_|(refine jdq rfl rfl ?_ ?_ ?_;kernel_rfl;kernel_rfl)|refine zB rfl rfl rfl (by repeat constructor) rfl ?_)
      refine oS (ev_conv rfl rfl rfl (wrap_u8 _)) rfl ?_
      refine oS (ev_indexAddr_arr rfl rfl rfl hlt) rfl ?_
      refine oN (ev_store rfl rfl .int rfl rfl (lay_set (i := 0 + j * 1) (r := wr8 v j) _ (by rw [wr8_len v j hj]; omega)) (ones_cons rfl ones_nil) .here) rfl ?_
      rintro _ _ _ _ ⟨rfl, _, rfl⟩
      rw [show 0 + j * 1 = j from by omega, wr8_set v j hlt]
      repeat (first|refine zJ rfl rfl ?_|refine jr rfl ?_|refine jn ?_|refine zM rfl rfl ?_|(refine zC rfl rfl ?_ rfl ?_;omega)|(refine zD rfl rfl ?_ rfl ?_;omega)|(refine zP rfl ?_ rfl ?_;omega)|refine zG rfl rfl rfl rfl ?_|(refine jdq rfl rfl ?_ ?_ ?_;kernel_rfl;kernel_rfl)|refine zB rfl rfl rfl (by repeat constructor) rfl ?_)
      exact J_again (j + 1) hlt (by omega) ⟨⟨rfl, rfl, rfl, rfl, rfl, trivial⟩, fun w s => s⟩
    · obtain rfl : j = 8 := by omega
      rw [wr8_8]
      repeat (first|refine zJ rfl rfl ?_|refine jr rfl ?_|refine jn ?_|refine zM rfl rfl ?_|(refine zC rfl rfl ?_ rfl ?_;omega)|(refine zD rfl rfl ?_ rfl ?_;omega)|(refine zP rfl ?_ rfl ?_;omega)|refine zG rfl rfl rfl rfl ?_|(refine jdq rfl rfl ?_ ?_ ?_;kernel_rfl;kernel_rfl)|refine zB rfl rfl rfl (by repeat constructor) rfl ?_)
      have hm : m ≤ 8 ∧ 1 ≤ m := by omega
      refine oS (ev_slice_arr_lo (lo := 8 - m) rfl (by rw [show ((8 - m : Nat) : Int) = 8 - (m : Int) from by omega]; rfl) rfl (by omega)) rfl ?_
      have hp : putB v m = (be8 v).drop (8 - m) := by simp [putB, hb]
      have hlen : (putB v m).length = 8 - (8 - m) := by rw [hp, List.length_drop, be8_len]
      refine oE (eb_append_fresh (bs := bs) (cs := putB v m) rfl rfl hclip.rds (show RdB F _ (.slice (some ⟨bw, 0 + (8 - m) * 1, none⟩) (8 - (8 - m)) (8 - (8 - m))) (putB v m) from ?_) (by rw [hlen]; omega) (by rw [hlen]; omega)) rfl ?_
      · unfold RdB
        rw [hlen]
        refine RdS.blk .here (by rw [u8s_len, hlen, Nat.mul_one]) ?_ (Nat.le_refl _)
        rw [hp, u8s_drop, Nat.mul_one, Nat.zero_add]
        exact List.take_length
      rintro u _ _ _ ⟨rfl, _, rfl⟩
      repeat (first|refine zJ rfl rfl ?_|refine jr rfl ?_|refine jn ?_|refine zM rfl rfl ?_|(refine zC rfl rfl ?_ rfl ?_;omega)|(refine zD rfl rfl ?_ rfl ?_;omega)|(refine zP rfl ?_ rfl ?_;omega)|refine zG rfl rfl rfl rfl ?_|(refine jdq rfl rfl ?_ ?_ ?_;kernel_rfl;kernel_rfl)|refine zB rfl rfl rfl (by repeat constructor) rfl ?_)
      exact J_retv rfl (.tmp rfl .nil) [bytes u (bs ++ putB v m)] (fun w s => (s.pick (.there .here)).drop) (PH.ler _) ⟨rfl, rfl⟩
end Go.Proofs.YtjjjckmpkldgnaaGreatDoor
namespace Go.Proofs.YtjjjckmpkldgnaaGreatDoor
open Go.RowKit
set_option maxRecDepth 100000
theorem putB_len {v : Nat} {m : Nat} (hb : sizeB m = true) : (putB v m).length = m := by
  have := sizeB_cases hb
  rw [putB, if_pos hb, List.length_drop, be8_len]
  omega
theorem take_snoc {α : Type} {l : List α} {j : Nat} {x : α} (h : l[j]? = some x) : l.take (j + 1) = l.take j ++ [x] := by
  obtain ⟨hlt, rfl⟩ := List.getElem?_eq_some_iff.1 h
  exact List.take_succ_eq_append_getElem hlt
set_option maxHeartbeats 2000000 in
theorem row_spec (a a2 : Option Addr) (c c2 : Nat) (bs row : List UInt8) (F : PH) (h : Byt F (.slice a bs.length c) bs) (hc : bs.length ≤ c) (h2 : Byt F (.slice a2 row.length c2) row) (hn : bs.length ≤ 1099511627776) (hn2 : row.length ≤ 1099511627776) :
    Spec Tryz.prog 101 [.slice a bs.length c, .slice a2 row.length c2] F [] fun u F' H' => F = F' ∧ H' = [bytes u (bs ++ putB row.length 4 ++ row)] := by
  refine Spec.of2 Tryz.func101 rfl rfl fun X w0 => ?_
  repeat (first|refine zJ rfl rfl ?_|refine jr rfl ?_|refine jn ?_|refine zM rfl rfl ?_|(refine zC rfl rfl ?_ rfl ?_;omega)|(refine zD rfl rfl ?_ rfl ?_;omega)|(refine zP rfl ?_ rfl ?_;omega)|refine zG rfl rfl rfl rfl ?_|(refine jdq rfl rfl ?_ ?_ ?_;kernel_rfl;kernel_rfl)|refine zB rfl rfl rfl (by repeat constructor) rfl ?_)
  refine oC (Hc := []) (Hr := X) (put_spec a c row.length 4 bs F h hc (by omega) hn) Tryz.call100 rfl rfl (fun _ s => s) ?_
  rintro u _ _ _ ⟨rfl, rfl⟩
  repeat (first|refine zJ rfl rfl ?_|refine jr rfl ?_|refine jn ?_|refine zM rfl rfl ?_|(refine zC rfl rfl ?_ rfl ?_;omega)|(refine zD rfl rfl ?_ rfl ?_;omega)|(refine zP rfl ?_ rfl ?_;omega)|refine zG rfl rfl rfl rfl ?_|(refine jdq rfl rfl ?_ ?_ ?_;kernel_rfl;kernel_rfl)|refine zB rfl rfl rfl (by repeat constructor) rfl ?_)
  refine oE (eb_append (K := fun v' => bytes v' (bs ++ putB row.length 4 ++ row) :: X) rfl rfl h2.rds ?_ (fun v' => .here)) rfl ?_
  · rw [List.length_append, show (4 : Int) = ((4 : Nat) : Int) from rfl, putB_len rfl]; omega
  rintro u _ _ _ ⟨rfl, _, rfl⟩
  repeat (first|refine zJ rfl rfl ?_|refine jr rfl ?_|refine jn ?_|refine zM rfl rfl ?_|(refine zC rfl rfl ?_ rfl ?_;omega)|(refine zD rfl rfl ?_ rfl ?_;omega)|(refine zP rfl ?_ rfl ?_;omega)|refine zG rfl rfl rfl rfl ?_|(refine jdq rfl rfl ?_ ?_ ?_;kernel_rfl;kernel_rfl)|refine zB rfl rfl rfl (by repeat constructor) rfl ?_)
  exact J_ret1 rfl rfl [bytes u (bs ++ putB row.length 4 ++ row)] rfl (PH.ler _) ⟨rfl, rfl⟩
end Go.Proofs.YtjjjckmpkldgnaaGreatDoor
