/-
  How words are read, in plain words; the program's readers walked. Conditions are typed with each.
  The program's readers of numbers, bytes and letters, walked. Conditions are typed with each.
  The program's readers of bytes, letters, rows of numbers and cores, walked. Conditions are typed with each.
-/
import Derived.Test.YtekdmpbkcjjllaaDoorPc
import Derived.Lib.ParseIntBTie
import Derived.Test.YtekdmpbkcjjllaaDoorKu
namespace Go.Proofs.YtekdmpbkcjjllaaDoor
open Go.RowKit
set_option maxRecDepth 100000
/-! ### numerals -/
theorem decDigits_ne (u : Nat) : Lib.decDigits u ≠ [] := by
  intro h
  have := Lib.decDigits_length u
  rw [h] at this
  have := Lib.nDigits_pos u
  simp at *
  omega
theorem digit_nat {d : Nat} (h : d < 10) : (UInt8.ofNat (48 + d)).toNat = 48 + d := by
  rw [UInt8.toNat_ofNat']
  exact Nat.mod_eq_of_lt (by omega)
theorem parseUintM_app (M : Nat) : ∀ (l r : W8) (acc u : Nat), Lib.parseUintM M acc l = .ok u → Lib.parseUintM M acc (l ++ r) = Lib.parseUintM M u r
  | [], r, acc, u, h => by
    simp only [Lib.parseUintM] at h
    injection h with h
    subst h
    rfl
  | c :: l, r, acc, u, h => by
    simp only [Lib.parseUintM] at h
    simp only [List.cons_append, Lib.parseUintM]
    split at h
    · rename_i h1
      rw [if_pos h1]
      split at h
      · cases h
      · rename_i h2
        rw [if_neg h2]
        split at h
        · cases h
        · rename_i h3
          rw [if_neg h3]
          exact parseUintM_app M l r _ u h
    · cases h
theorem parseUintM_dec (u : Nat) : ∀ (_ : u < 18446744073709551616), Lib.parseUintM 18446744073709551615 0 (Lib.decDigits u) = .ok u := by
  induction u using Nat.strongRecOn with
  | _ u ih =>
    intro hu
    by_cases h : u < 10
    · rw [Lib.decDigits, dif_pos h]
      have := digit_nat h
      simp only [Lib.parseUintM, this]
      rw [if_pos (by omega), if_neg (by omega), if_neg (by omega)]
      congr 1
      omega
    · rw [Lib.decDigits, dif_neg h, parseUintM_app _ _ _ 0 (u / 10) (ih (u / 10) (by omega) (by omega))]
      have := digit_nat (d := u % 10) (by omega)
      simp only [Lib.parseUintM, this]
      rw [if_pos (by omega), if_neg (by omega), if_neg (by omega)]
      congr 1
      omega
theorem decDigits_head (u : Nat) : ∃ c r, Lib.decDigits u = c :: r ∧ 48 ≤ c.toNat ∧ c.toNat ≤ 57 := by
  induction u using Nat.strongRecOn with
  | _ u ih =>
    by_cases h : u < 10
    · have := digit_nat h
      exact ⟨_, [], by rw [Lib.decDigits, dif_pos h], by omega, by omega⟩
    · obtain ⟨c, r, e, h1, h2⟩ := ih (u / 10) (by omega)
      exact ⟨c, _, by rw [Lib.decDigits, dif_neg h, e]; rfl, h1, h2⟩
theorem parse_itoa {n : Int} (h : InI n) : Lib.parseIntB 64 (Lib.itoa n) = .ok n := by
  obtain ⟨h0, h1⟩ := h
  by_cases hneg : n < 0
  · obtain ⟨u, rfl, hu⟩ : ∃ u : Nat, n = -(u : Int) ∧ 1 ≤ u := ⟨n.natAbs, by omega, by omega⟩
    rw [Lib.itoa_neg u hu, Lib.parseIntB_minus]
    unfold Lib.parseUintB
    rw [if_neg (decDigits_ne u), show (2 ^ 64 - 1 : Nat) = 18446744073709551615 from rfl, parseUintM_dec u (by omega)]
    unfold Lib.signedC
    dsimp only
    rw [if_neg (by rw [show (2 ^ (64 - 1) : Nat) = 9223372036854775808 from rfl]; omega)]
  · obtain ⟨u, rfl⟩ : ∃ u : Nat, n = u := ⟨n.toNat, by omega⟩
    rw [Lib.itoa_nonneg]
    obtain ⟨c, r, e, c1, c2⟩ := decDigits_head u
    have hp := parseUintM_dec u (by omega)
    rw [e] at hp ⊢
    rw [Lib.parseIntB_plain 64 c r (by omega) (by omega)]
    unfold Lib.parseUintB
    rw [if_neg (by simp), show (2 ^ 64 - 1 : Nat) = 18446744073709551615 from rfl, hp]
    unfold Lib.signlessC
    dsimp only
    rw [if_neg (by rw [show (2 ^ (64 - 1) : Nat) = 9223372036854775808 from rfl]; omega)]
theorem itoa_inj {m n : Int} (hm : InI m) (hn : InI n) (h : Lib.itoa m = Lib.itoa n) : m = n := by
  have h1 := parse_itoa hm
  rw [h, parse_itoa hn] at h1
  injection h1 with h1
  exact h1.symm
theorem itoa_ne (n : Int) : Lib.itoa n ≠ [] := by
  unfold Lib.itoa
  split
  · simp
  · exact decDigits_ne _
open Classical in
noncomputable def numW (w : W8) : Option Int := if h : ∃ n, InI n ∧ Lib.itoa n = w then some (Classical.choose h) else none
theorem numW_itoa {n : Int} (h : InI n) : numW (Lib.itoa n) = some n := by
  have he : ∃ m, InI m ∧ Lib.itoa m = Lib.itoa n := ⟨n, h, rfl⟩
  unfold numW
  rw [dif_pos he]
  obtain ⟨h1, h2⟩ := Classical.choose_spec he
  rw [itoa_inj h1 h h2]
theorem numW_some {w : W8} {n : Int} (h : numW w = some n) : InI n ∧ Lib.itoa n = w := by
  unfold numW at h
  split at h
  · rename_i he
    cases h
    exact Classical.choose_spec he
  · cases h
theorem numW_none {w : W8} (h : numW w = none) (n : Int) (hn : InI n) : Lib.itoa n ≠ w := fun e => by
  subst e
  rw [numW_itoa hn] at h
  cases h
/-! ### bytes -/
def nib (c : UInt8) : Option Nat := if 48 ≤ c.toNat ∧ c.toNat ≤ 57 then some (c.toNat - 48) else if 97 ≤ c.toNat ∧ c.toNat ≤ 102 then some (c.toNat - 87) else none
def unhex : W8 → Option W8
  | [] => some []
  | [_] => none
  | a :: b :: r => match nib a, nib b, unhex r with
    | some x, some y, some t => some (UInt8.ofNat (16 * x + y) :: t)
    | _, _, _ => none
def bytesW (w : W8) : Option W8 := if w = [45] then some [] else if w = [] then none else unhex w
def letterB (w : W8) : Bool := decide (w ≠ []) && decide (w.length ≤ 64) && !w.contains 32 && !w.contains 10
def letterW (w : W8) : Option W8 := if letterB w then some w else none
def tk1 {α : Type} (f : W8 → Option α) (ws : List W8) : Option α := ws.head?.bind f
def allW {α : Type} (f : W8 → Option α) : List W8 → Option (List α)
  | [] => some []
  | w :: r => (f w).bind fun x => (allW f r).map fun t => x :: t
/-- What a reader says of what it read: r, or that it is odd. -/
def Rd {α : Type} (odd : Bool) (r : Option α) (n : α) (odd' : Bool) : Prop := (odd' = false → odd = false ∧ r = some n) ∧ (odd = false → r ≠ none → odd' = false)
theorem Rd.yes {α : Type} {n : α} : Rd false (some n) n false := ⟨fun _ => ⟨rfl, rfl⟩, fun _ _ => rfl⟩
theorem Rd.no {α : Type} {odd : Bool} {r : Option α} {n : α} (h : odd = false → r = none) : Rd odd r n true := ⟨fun e => (by cases e), fun e h2 => absurd (h e) h2⟩
theorem Rd.case {α : Type} {odd odd' : Bool} {r : Option α} {n : α} (h : Rd odd r n odd') : (odd' = false ∧ odd = false ∧ r = some n) ∨ (odd' = true ∧ (odd = false → r = none)) := by
  cases odd' with
  | false => exact .inl ⟨rfl, h.1 rfl⟩
  | true =>
    refine .inr ⟨rfl, fun e => ?_⟩
    cases r with
    | none => rfl
    | some x => exact absurd (h.2 e (by simp)) (by simp)
/-- A row of words. -/
def WRow (F : PH) (v : Value) (ws : List W8) : Prop := SliceV F 1 v ws.length (strC ws) ∧ ∀ w ∈ ws, w.length ≤ 2000000
theorem WRow.mono {F G : PH} {v : Value} {ws : List W8} (h : WRow F v ws) (hl : F.le G) : WRow G v ws := ⟨SliceV.mono h.1 hl, h.2⟩
theorem WRow.tail {F : PH} {a : Option Addr} {c : Nat} {ws : List W8} (h : WRow F (.slice a ws.length c) ws) (h0 : ws ≠ []) : WRow F (cutV a 1 c 1 ws.length c) ws.tail := by
  have hl : 0 < ws.length := List.length_pos_iff.2 h0
  obtain ⟨_, a', c', e, hnc, _⟩ := id h.1
  cases e
  have h1 := SliceV.cut h.1 (lo := 1) (hi := ws.length) (m := c) hl (Nat.le_refl _) hnc
  refine ⟨?_, fun w hw => h.2 w (List.mem_of_mem_tail hw)⟩
  have e1 : ((strC ws).drop (1 * 1)).take ((ws.length - 1) * 1) = strC ws.tail := by
    rw [Nat.mul_one, Nat.mul_one, List.take_of_length_le (by simp [strC])]
    unfold strC
    rw [List.map_tail, List.drop_one]
  rw [e1] at h1
  rw [List.length_tail]
  exact h1
def wd (b : Nat) (v : Value) (odd : Bool) : Asrt := blk b 74 [v, .bool odd]
set_option maxHeartbeats 1000000 in
theorem next_spec (b : Nat) (v : Value) (ws : List W8) (odd : Bool) (F : PH) (h : WRow F v ws) : Spec Tryd.prog 30 [pW b] F [wd b v odd] fun u F' H' => ∃ v', u = .string (strOf (ws.headD [])) ∧ H' = [wd b v' (odd || ws.isEmpty)] ∧ WRow F' v' ws.tail := by
  obtain ⟨_, a, c, rfl, hc, hat⟩ := slice1 h.1
  refine Spec.of1 Tryd.func30 rfl rfl fun X w0 => ?_
  show J _ _ _ _ (blk b 74 [.slice a ws.length c, .bool odd] :: X)
  unfold pW
  cases ws with
  | nil =>
    repeat (first|refine zJ rfl rfl ?_|refine jr rfl ?_|refine jn ?_|refine zM rfl rfl ?_|(refine zC rfl rfl ?_ rfl ?_;omega)|(refine zD rfl rfl ?_ rfl ?_;omega)|(refine zP rfl ?_ rfl ?_;omega)|refine zG rfl rfl rfl rfl ?_|(refine jdq rfl rfl ?_ ?_ ?_;kernel_rfl;kernel_rfl)|refine zB rfl rfl rfl (by repeat constructor) rfl ?_|refine zH .here rfl rfl rfl rfl ?_|refine zH (.there .here) rfl rfl rfl rfl ?_|refine zH (.there (.there .here)) rfl rfl rfl rfl ?_|refine zH (.there (.there (.there .here))) rfl rfl rfl rfl ?_|refine zH (.there (.there (.there (.there .here)))) rfl rfl rfl rfl ?_)
    refine oN (ev_store rfl rfl .bool rfl rfl (.skip (.put .nil)) (ones_cons rfl ones_nil) .here) rfl ?_
    rintro _ _ _ _ ⟨rfl, _, rfl⟩
    repeat (first|refine zJ rfl rfl ?_|refine jr rfl ?_|refine jn ?_|refine zM rfl rfl ?_|(refine zC rfl rfl ?_ rfl ?_;omega)|(refine zD rfl rfl ?_ rfl ?_;omega)|(refine zP rfl ?_ rfl ?_;omega)|refine zG rfl rfl rfl rfl ?_|(refine jdq rfl rfl ?_ ?_ ?_;kernel_rfl;kernel_rfl)|refine zB rfl rfl rfl (by repeat constructor) rfl ?_|refine zH .here rfl rfl rfl rfl ?_|refine zH (.there .here) rfl rfl rfl rfl ?_|refine zH (.there (.there .here)) rfl rfl rfl rfl ?_|refine zH (.there (.there (.there .here))) rfl rfl rfl rfl ?_|refine zH (.there (.there (.there (.there .here)))) rfl rfl rfl rfl ?_)
    exact J_ret1 rfl rfl [wd b (.slice a 0 c) true] rfl (PH.ler _) ⟨.slice a 0 c, rfl, by rw [List.isEmpty_nil, Bool.or_true], h⟩
  | cons w r =>
    obtain ⟨b1, o1, rfl, hcc⟩ := hat 0 w rfl
    have ht := h.tail (by simp)
    rw [List.length_cons] at *
    repeat (first|refine zJ rfl rfl ?_|refine jr rfl ?_|refine jn ?_|refine zM rfl rfl ?_|(refine zC rfl rfl ?_ rfl ?_;omega)|(refine zD rfl rfl ?_ rfl ?_;omega)|(refine zP rfl ?_ rfl ?_;omega)|refine zG rfl rfl rfl rfl ?_|(refine jdq rfl rfl ?_ ?_ ?_;kernel_rfl;kernel_rfl)|refine zB rfl rfl rfl (by repeat constructor) rfl ?_|refine zH .here rfl rfl rfl rfl ?_|refine zH (.there .here) rfl rfl rfl rfl ?_|refine zH (.there (.there .here)) rfl rfl rfl rfl ?_|refine zH (.there (.there (.there .here))) rfl rfl rfl rfl ?_|refine zH (.there (.there (.there (.there .here)))) rfl rfl rfl rfl ?_)
    refine oS (ev_indexAddr (i := 0) rfl rfl rfl (by omega)) rfl ?_
    refine oS (ev_load rfl rfl (Rdb.ofF hcc)) rfl ?_
    repeat (first|refine zJ rfl rfl ?_|refine jr rfl ?_|refine jn ?_|refine zM rfl rfl ?_|(refine zC rfl rfl ?_ rfl ?_;omega)|(refine zD rfl rfl ?_ rfl ?_;omega)|(refine zP rfl ?_ rfl ?_;omega)|refine zG rfl rfl rfl rfl ?_|(refine jdq rfl rfl ?_ ?_ ?_;kernel_rfl;kernel_rfl)|refine zB rfl rfl rfl (by repeat constructor) rfl ?_|refine zH .here rfl rfl rfl rfl ?_|refine zH (.there .here) rfl rfl rfl rfl ?_|refine zH (.there (.there .here)) rfl rfl rfl rfl ?_|refine zH (.there (.there (.there .here))) rfl rfl rfl rfl ?_|refine zH (.there (.there (.there (.there .here)))) rfl rfl rfl rfl ?_)
    refine oS (ev_slice_lo (lo := 1) rfl rfl rfl (by omega)) rfl ?_
    repeat (first|refine zJ rfl rfl ?_|refine jr rfl ?_|refine jn ?_|refine zM rfl rfl ?_|(refine zC rfl rfl ?_ rfl ?_;omega)|(refine zD rfl rfl ?_ rfl ?_;omega)|(refine zP rfl ?_ rfl ?_;omega)|refine zG rfl rfl rfl rfl ?_|(refine jdq rfl rfl ?_ ?_ ?_;kernel_rfl;kernel_rfl)|refine zB rfl rfl rfl (by repeat constructor) rfl ?_|refine zH .here rfl rfl rfl rfl ?_|refine zH (.there .here) rfl rfl rfl rfl ?_|refine zH (.there (.there .here)) rfl rfl rfl rfl ?_|refine zH (.there (.there (.there .here))) rfl rfl rfl rfl ?_|refine zH (.there (.there (.there (.there .here)))) rfl rfl rfl rfl ?_)
    refine oN (ev_store (vs := [cutV (some ⟨b1, o1, none⟩) 1 c 1 (r.length + 1) c]) rfl rfl .slice rfl rfl (.put .nil) (ones_cons rfl ones_nil) .here) rfl ?_
    rintro _ _ _ _ ⟨rfl, _, rfl⟩
    repeat (first|refine zJ rfl rfl ?_|refine jr rfl ?_|refine jn ?_|refine zM rfl rfl ?_|(refine zC rfl rfl ?_ rfl ?_;omega)|(refine zD rfl rfl ?_ rfl ?_;omega)|(refine zP rfl ?_ rfl ?_;omega)|refine zG rfl rfl rfl rfl ?_|(refine jdq rfl rfl ?_ ?_ ?_;kernel_rfl;kernel_rfl)|refine zB rfl rfl rfl (by repeat constructor) rfl ?_|refine zH .here rfl rfl rfl rfl ?_|refine zH (.there .here) rfl rfl rfl rfl ?_|refine zH (.there (.there .here)) rfl rfl rfl rfl ?_|refine zH (.there (.there (.there .here))) rfl rfl rfl rfl ?_|refine zH (.there (.there (.there (.there .here)))) rfl rfl rfl rfl ?_)
    exact J_ret1 rfl rfl [wd b (cutV (some ⟨b1, o1, none⟩) 1 c 1 (r.length + 1) c) odd] rfl (PH.ler _) ⟨_, rfl, by rw [List.isEmpty_cons, Bool.or_false], ht⟩
theorem headD_len {F : PH} {v : Value} {ws : List W8} (h : WRow F v ws) : (ws.headD []).length ≤ 2000000 := by
  cases ws with
  | nil => simp
  | cons w r => exact h.2 w (by simp)
section
variable {P : Program} {l : Env} {F : PH} {H : List Asrt} {d : Option Nat} {T T' U : TypeId} {pos : String} {af : Array Edge} {g : Option (Nat × Bool)} {x y : Operand}
theorem ev_iface_neq {ms : Array (String × TypeId)} {t : TypeId} {p : Value} (hx : opv l x = some (.iface t p)) (hy : opv l y = some .nilIface) (hu : P.underlying T = some (.interface ms)) : Ev P ⟨d, .binOp .neq T x y T', U, pos, af, g⟩ l F H (.bool true) := .of fun ρ hρ w _ => by
  have e1 := hρ _ _ hx; have e2 := hρ _ _ hy
  have hr : (Op.equal T (.iface t p) .nilIface).run P w = .ok false w := equal_of _ _ _ _ _ fun n => by simp [Op.equalIn, run_underlying hu]
  refine run_v2 ?_ ?_
  · rw [e1, e2]; rfl
  · rw [e1, e2]; simp [binOp, hr]
theorem ev_iface_neq0 {ms : Array (String × TypeId)} (hx : opv l x = some .nilIface) (hu : P.underlying T = some (.interface ms)) : Ev P ⟨d, .binOp .neq T x (.const .nilIface) T', U, pos, af, g⟩ l F H (.bool false) := .of fun ρ hρ w _ => by
  have e1 := hρ _ _ hx
  have e2 : ρ (.const .nilIface) = .nilIface := hρ _ _ rfl
  have hr : (Op.equal T .nilIface .nilIface).run P w = .ok true w := equal_of _ _ _ _ _ fun n => by simp [Op.equalIn, run_underlying hu]
  refine run_v2 ?_ ?_
  · rw [e1, e2]; simp [eqGuard, go_sem]
  · rw [e1, e2]; simp [binOp, hr]
end
end Go.Proofs.YtekdmpbkcjjllaaDoor
namespace Go.Proofs.YtekdmpbkcjjllaaDoor
open Go.RowKit
set_option maxRecDepth 100000
/-- What a reader of one word leaves. -/
def RdQ {α : Type} (b : Nat) (ws : List W8) (odd : Bool) (f : W8 → Option α) (val : PH → Value → α → Prop) (u : Value) (F' : PH) (H' : List Asrt) : Prop :=
  ∃ n v' odd', val F' u n ∧ H' = [wd b v' odd'] ∧ WRow F' v' ws.tail ∧ Rd odd (tk1 f ws) n odd'
theorem Rd.same {α : Type} {odd : Bool} {n : α} : Rd odd (some n) n odd := ⟨fun e => ⟨e, rfl⟩, fun e _ => e⟩
theorem isEmpty_of_head {ws : List W8} (h : ws.headD [] ≠ []) : ws.isEmpty = false := by
  cases ws with
  | nil => simp at h
  | cons _ _ => rfl
theorem tk1_head {α : Type} {f : W8 → Option α} {ws : List W8} (h : f [] = none) : tk1 f ws = f (ws.headD []) := by
  cases ws with
  | nil => rw [List.headD_nil, h]; rfl
  | cons _ _ => rfl
theorem numW_nil : numW [] = none := by
  cases h : numW [] with
  | none => rfl
  | some n => exact absurd (numW_some h).2 (itoa_ne n)
def valI (_ : PH) (u : Value) (n : Int) : Prop := u = .int .i64 n ∧ InI n
set_option maxHeartbeats 2000000 in
theorem long_spec (b : Nat) (v : Value) (ws : List W8) (odd : Bool) (F : PH) (hF : LibF F) (h : WRow F v ws) : Spec Tryd.prog 57 [pW b] F [wd b v odd] (RdQ b ws odd numW valI) := by
  refine Spec.of1 Tryd.func57 rfl rfl fun X w0 => ?_
  have hlen := headD_len h
  unfold RdQ
  rw [tk1_head numW_nil]
  repeat (first|refine zJ rfl rfl ?_|refine jr rfl ?_|refine jn ?_|refine zM rfl rfl ?_|(refine zC rfl rfl ?_ rfl ?_;omega)|(refine zD rfl rfl ?_ rfl ?_;omega)|(refine zP rfl ?_ rfl ?_;omega)|refine zG rfl rfl rfl rfl ?_|(refine jdq rfl rfl ?_ ?_ ?_;kernel_rfl;kernel_rfl)|refine zB rfl rfl rfl (by repeat constructor) rfl ?_|refine zH .here rfl rfl rfl rfl ?_|refine zH (.there .here) rfl rfl rfl rfl ?_|refine zH (.there (.there .here)) rfl rfl rfl rfl ?_|refine zH (.there (.there (.there .here))) rfl rfl rfl rfl ?_|refine zH (.there (.there (.there (.there .here)))) rfl rfl rfl rfl ?_)
  refine oC (Hc := [wd b v odd]) (Hr := X) (next_spec b v ws odd F h) Tryd.call30 rfl rfl (fun _ s => s) ?_
  rintro _ F1 _ hF1 ⟨v1, rfl, rfl, hv1⟩
  have hem := isEmpty_of_head (ws := ws)
  generalize ws.headD [] = s at *
  have hL1 := hF.mono hF1
  show JM _ _ _ _ _ _ _ (blk b 74 [v1, .bool (odd || ws.isEmpty)] :: X)
  unfold pW
  cases hp : Lib.parseIntB 64 s with
  | ok m =>
    have hb := Lib.parseIntB_bounds hp
    rw [show (2 ^ (64 - 1) : Nat) = 9223372036854775808 from rfl] at hb
    have hm : InI m := ⟨by omega, by omega⟩
    repeat (first|refine zJ rfl rfl ?_|refine jr rfl ?_|refine jn ?_|refine zM rfl rfl ?_|(refine zC rfl rfl ?_ rfl ?_;omega)|(refine zD rfl rfl ?_ rfl ?_;omega)|(refine zP rfl ?_ rfl ?_;omega)|refine zG rfl rfl rfl rfl ?_|(refine jdq rfl rfl ?_ ?_ ?_;kernel_rfl;kernel_rfl)|refine zB rfl rfl rfl (by repeat constructor) rfl ?_|refine zH .here rfl rfl rfl rfl ?_|refine zH (.there .here) rfl rfl rfl rfl ?_|refine zH (.there (.there .here)) rfl rfl rfl rfl ?_|refine zH (.there (.there (.there .here))) rfl rfl rfl rfl ?_|refine zH (.there (.there (.there (.there .here)))) rfl rfl rfl rfl ?_)
    refine oP (parse_ok s (by omega) m hp F1) Tryd.call70 rfl rfl ?_
    repeat (first|refine zJ rfl rfl ?_|refine jr rfl ?_|refine jn ?_|refine zM rfl rfl ?_|(refine zC rfl rfl ?_ rfl ?_;omega)|(refine zD rfl rfl ?_ rfl ?_;omega)|(refine zP rfl ?_ rfl ?_;omega)|refine zG rfl rfl rfl rfl ?_|(refine jdq rfl rfl ?_ ?_ ?_;kernel_rfl;kernel_rfl)|refine zB rfl rfl rfl (by repeat constructor) rfl ?_|refine zH .here rfl rfl rfl rfl ?_|refine zH (.there .here) rfl rfl rfl rfl ?_|refine zH (.there (.there .here)) rfl rfl rfl rfl ?_|refine zH (.there (.there (.there .here))) rfl rfl rfl rfl ?_|refine zH (.there (.there (.there (.there .here)))) rfl rfl rfl rfl ?_)
    refine oS (ev_iface_neq0 rfl rfl) rfl ?_
    repeat (first|refine zJ rfl rfl ?_|refine jr rfl ?_|refine jn ?_|refine zM rfl rfl ?_|(refine zC rfl rfl ?_ rfl ?_;omega)|(refine zD rfl rfl ?_ rfl ?_;omega)|(refine zP rfl ?_ rfl ?_;omega)|refine zG rfl rfl rfl rfl ?_|(refine jdq rfl rfl ?_ ?_ ?_;kernel_rfl;kernel_rfl)|refine zB rfl rfl rfl (by repeat constructor) rfl ?_|refine zH .here rfl rfl rfl rfl ?_|refine zH (.there .here) rfl rfl rfl rfl ?_|refine zH (.there (.there .here)) rfl rfl rfl rfl ?_|refine zH (.there (.there (.there .here))) rfl rfl rfl rfl ?_|refine zH (.there (.there (.there (.there .here)))) rfl rfl rfl rfl ?_)
    refine oP (fmt_spec m hm.1 hm.2 F1 hL1.tab) Tryd.call50 rfl rfl ?_
    repeat (first|refine zJ rfl rfl ?_|refine jr rfl ?_|refine jn ?_|refine zM rfl rfl ?_|(refine zC rfl rfl ?_ rfl ?_;omega)|(refine zD rfl rfl ?_ rfl ?_;omega)|(refine zP rfl ?_ rfl ?_;omega)|refine zG rfl rfl rfl rfl ?_|(refine jdq rfl rfl ?_ ?_ ?_;kernel_rfl;kernel_rfl)|refine zB rfl rfl rfl (by repeat constructor) rfl ?_|refine zH .here rfl rfl rfl rfl ?_|refine zH (.there .here) rfl rfl rfl rfl ?_|refine zH (.there (.there .here)) rfl rfl rfl rfl ?_|refine zH (.there (.there (.there .here))) rfl rfl rfl rfl ?_|refine zH (.there (.there (.there (.there .here)))) rfl rfl rfl rfl ?_)
    by_cases he : Lib.itoa m = s
    · refine oS (ev_sneq (r := false) rfl rfl (by simp [he])) rfl ?_
      repeat (first|refine zJ rfl rfl ?_|refine jr rfl ?_|refine jn ?_|refine zM rfl rfl ?_|(refine zC rfl rfl ?_ rfl ?_;omega)|(refine zD rfl rfl ?_ rfl ?_;omega)|(refine zP rfl ?_ rfl ?_;omega)|refine zG rfl rfl rfl rfl ?_|(refine jdq rfl rfl ?_ ?_ ?_;kernel_rfl;kernel_rfl)|refine zB rfl rfl rfl (by repeat constructor) rfl ?_|refine zH .here rfl rfl rfl rfl ?_|refine zH (.there .here) rfl rfl rfl rfl ?_|refine zH (.there (.there .here)) rfl rfl rfl rfl ?_|refine zH (.there (.there (.there .here))) rfl rfl rfl rfl ?_|refine zH (.there (.there (.there (.there .here)))) rfl rfl rfl rfl ?_)
      have hne : ws.isEmpty = false := hem (by rw [← he]; exact itoa_ne m)
      refine J_ret1 rfl rfl [wd b v1 (odd || ws.isEmpty)] rfl hF1 ⟨m, v1, odd || ws.isEmpty, ⟨rfl, hm⟩, rfl, hv1, ?_⟩
      rw [hne, Bool.or_false, ← he, numW_itoa hm]
      exact Rd.same
    · refine oS (ev_sneq (r := true) rfl rfl (by simp [he])) rfl ?_
      repeat (first|refine zJ rfl rfl ?_|refine jr rfl ?_|refine jn ?_|refine zM rfl rfl ?_|(refine zC rfl rfl ?_ rfl ?_;omega)|(refine zD rfl rfl ?_ rfl ?_;omega)|(refine zP rfl ?_ rfl ?_;omega)|refine zG rfl rfl rfl rfl ?_|(refine jdq rfl rfl ?_ ?_ ?_;kernel_rfl;kernel_rfl)|refine zB rfl rfl rfl (by repeat constructor) rfl ?_|refine zH .here rfl rfl rfl rfl ?_|refine zH (.there .here) rfl rfl rfl rfl ?_|refine zH (.there (.there .here)) rfl rfl rfl rfl ?_|refine zH (.there (.there (.there .here))) rfl rfl rfl rfl ?_|refine zH (.there (.there (.there (.there .here)))) rfl rfl rfl rfl ?_)
      refine oN (ev_store rfl rfl .bool rfl rfl (.skip (.put .nil)) (ones_cons rfl ones_nil) .here) rfl ?_
      rintro _ _ _ _ ⟨rfl, _, rfl⟩
      repeat (first|refine zJ rfl rfl ?_|refine jr rfl ?_|refine jn ?_|refine zM rfl rfl ?_|(refine zC rfl rfl ?_ rfl ?_;omega)|(refine zD rfl rfl ?_ rfl ?_;omega)|(refine zP rfl ?_ rfl ?_;omega)|refine zG rfl rfl rfl rfl ?_|(refine jdq rfl rfl ?_ ?_ ?_;kernel_rfl;kernel_rfl)|refine zB rfl rfl rfl (by repeat constructor) rfl ?_|refine zH .here rfl rfl rfl rfl ?_|refine zH (.there .here) rfl rfl rfl rfl ?_|refine zH (.there (.there .here)) rfl rfl rfl rfl ?_|refine zH (.there (.there (.there .here))) rfl rfl rfl rfl ?_|refine zH (.there (.there (.there (.there .here)))) rfl rfl rfl rfl ?_)
      refine J_ret1 rfl rfl [wd b v1 true] rfl hF1 ⟨m, v1, true, ⟨rfl, hm⟩, rfl, hv1, Rd.no fun _ => ?_⟩
      cases hn : numW s with
      | none => rfl
      | some k =>
        obtain ⟨hk, e⟩ := numW_some hn
        rw [← e, parse_itoa hk] at hp
        injection hp with hp
        rw [hp] at e
        exact absurd e he
  | _ =>
    have hno : ∀ w, Lib.parseIntB 64 s ≠ .ok w := by simp [hp]
    repeat (first|refine zJ rfl rfl ?_|refine jr rfl ?_|refine jn ?_|refine zM rfl rfl ?_|(refine zC rfl rfl ?_ rfl ?_;omega)|(refine zD rfl rfl ?_ rfl ?_;omega)|(refine zP rfl ?_ rfl ?_;omega)|refine zG rfl rfl rfl rfl ?_|(refine jdq rfl rfl ?_ ?_ ?_;kernel_rfl;kernel_rfl)|refine zB rfl rfl rfl (by repeat constructor) rfl ?_|refine zH .here rfl rfl rfl rfl ?_|refine zH (.there .here) rfl rfl rfl rfl ?_|refine zH (.there (.there .here)) rfl rfl rfl rfl ?_|refine zH (.there (.there (.there .here))) rfl rfl rfl rfl ?_|refine zH (.there (.there (.there (.there .here)))) rfl rfl rfl rfl ?_)
    refine oR (parse_bad s (by omega) hno F1 hL1) Tryd.call70 rfl rfl ?_
    rintro _ F2 hF2 ⟨m, t, p, rfl, hm⟩
    repeat (first|refine zJ rfl rfl ?_|refine jr rfl ?_|refine jn ?_|refine zM rfl rfl ?_|(refine zC rfl rfl ?_ rfl ?_;omega)|(refine zD rfl rfl ?_ rfl ?_;omega)|(refine zP rfl ?_ rfl ?_;omega)|refine zG rfl rfl rfl rfl ?_|(refine jdq rfl rfl ?_ ?_ ?_;kernel_rfl;kernel_rfl)|refine zB rfl rfl rfl (by repeat constructor) rfl ?_|refine zH .here rfl rfl rfl rfl ?_|refine zH (.there .here) rfl rfl rfl rfl ?_|refine zH (.there (.there .here)) rfl rfl rfl rfl ?_|refine zH (.there (.there (.there .here))) rfl rfl rfl rfl ?_|refine zH (.there (.there (.there (.there .here)))) rfl rfl rfl rfl ?_)
    refine oS (ev_iface_neq rfl rfl rfl) rfl ?_
    repeat (first|refine zJ rfl rfl ?_|refine jr rfl ?_|refine jn ?_|refine zM rfl rfl ?_|(refine zC rfl rfl ?_ rfl ?_;omega)|(refine zD rfl rfl ?_ rfl ?_;omega)|(refine zP rfl ?_ rfl ?_;omega)|refine zG rfl rfl rfl rfl ?_|(refine jdq rfl rfl ?_ ?_ ?_;kernel_rfl;kernel_rfl)|refine zB rfl rfl rfl (by repeat constructor) rfl ?_|refine zH .here rfl rfl rfl rfl ?_|refine zH (.there .here) rfl rfl rfl rfl ?_|refine zH (.there (.there .here)) rfl rfl rfl rfl ?_|refine zH (.there (.there (.there .here))) rfl rfl rfl rfl ?_|refine zH (.there (.there (.there (.there .here)))) rfl rfl rfl rfl ?_)
    refine oN (ev_store rfl rfl .bool rfl rfl (.skip (.put .nil)) (ones_cons rfl ones_nil) .here) rfl ?_
    rintro _ _ _ _ ⟨rfl, _, rfl⟩
    repeat (first|refine zJ rfl rfl ?_|refine jr rfl ?_|refine jn ?_|refine zM rfl rfl ?_|(refine zC rfl rfl ?_ rfl ?_;omega)|(refine zD rfl rfl ?_ rfl ?_;omega)|(refine zP rfl ?_ rfl ?_;omega)|refine zG rfl rfl rfl rfl ?_|(refine jdq rfl rfl ?_ ?_ ?_;kernel_rfl;kernel_rfl)|refine zB rfl rfl rfl (by repeat constructor) rfl ?_|refine zH .here rfl rfl rfl rfl ?_|refine zH (.there .here) rfl rfl rfl rfl ?_|refine zH (.there (.there .here)) rfl rfl rfl rfl ?_|refine zH (.there (.there (.there .here))) rfl rfl rfl rfl ?_|refine zH (.there (.there (.there (.there .here)))) rfl rfl rfl rfl ?_)
    refine J_ret1 rfl rfl [wd b v1 true] rfl (hF1.trans hF2) ⟨m, v1, true, ⟨rfl, hm⟩, rfl, hv1.mono hF2, Rd.no fun _ => ?_⟩
    cases hn : numW s with
    | none => rfl
    | some k =>
      obtain ⟨hk, e⟩ := numW_some hn
      exact absurd (e ▸ parse_itoa hk) (hno k)
theorem int_spec (b : Nat) (v : Value) (ws : List W8) (odd : Bool) (F : PH) (hF : LibF F) (h : WRow F v ws) : Spec Tryd.prog 32 [pW b] F [wd b v odd] (RdQ b ws odd numW valI) := by
  refine Spec.of1 Tryd.func32 rfl rfl fun X w0 => ?_
  repeat (first|refine zJ rfl rfl ?_|refine jr rfl ?_|refine jn ?_|refine zM rfl rfl ?_|(refine zC rfl rfl ?_ rfl ?_;omega)|(refine zD rfl rfl ?_ rfl ?_;omega)|(refine zP rfl ?_ rfl ?_;omega)|refine zG rfl rfl rfl rfl ?_|(refine jdq rfl rfl ?_ ?_ ?_;kernel_rfl;kernel_rfl)|refine zB rfl rfl rfl (by repeat constructor) rfl ?_|refine zH .here rfl rfl rfl rfl ?_|refine zH (.there .here) rfl rfl rfl rfl ?_|refine zH (.there (.there .here)) rfl rfl rfl rfl ?_|refine zH (.there (.there (.there .here))) rfl rfl rfl rfl ?_|refine zH (.there (.there (.there (.there .here)))) rfl rfl rfl rfl ?_)
  refine oC (Hc := [wd b v odd]) (Hr := X) (long_spec b v ws odd F hF h) Tryd.call57 rfl rfl (fun _ s => s) ?_
  rintro _ F1 _ hF1 ⟨n, v1, odd1, ⟨rfl, hn⟩, rfl, hv1, hr⟩
  repeat (first|refine zJ rfl rfl ?_|refine jr rfl ?_|refine jn ?_|refine zM rfl rfl ?_|(refine zC rfl rfl ?_ rfl ?_;omega)|(refine zD rfl rfl ?_ rfl ?_;omega)|(refine zP rfl ?_ rfl ?_;omega)|refine zG rfl rfl rfl rfl ?_|(refine jdq rfl rfl ?_ ?_ ?_;kernel_rfl;kernel_rfl)|refine zB rfl rfl rfl (by repeat constructor) rfl ?_|refine zH .here rfl rfl rfl rfl ?_|refine zH (.there .here) rfl rfl rfl rfl ?_|refine zH (.there (.there .here)) rfl rfl rfl rfl ?_|refine zH (.there (.there (.there .here))) rfl rfl rfl rfl ?_|refine zH (.there (.there (.there (.there .here)))) rfl rfl rfl rfl ?_)
  exact J_ret1 rfl rfl [wd b v1 odd1] rfl hF1 ⟨n, v1, odd1, ⟨rfl, hn⟩, rfl, hv1, hr⟩
theorem indexByte_hx (c : UInt8) : Lib.indexByte hxT c = match nib c with | some n => (n : Int) | none => -1 := by
  have : ∀ n : Fin 256, Lib.indexByte hxT (UInt8.ofNat n.val) = match nib (UInt8.ofNat n.val) with | some n => (n : Int) | none => -1 := by decide +kernel
  have h := this ⟨c.toNat, c.toNat_lt⟩
  rwa [UInt8.ofNat_toNat] at h
theorem nib_lt {c : UInt8} {n : Nat} (h : nib c = some n) : n < 16 := by
  unfold nib at h
  split at h
  · cases h; omega
  · split at h
    · cases h; omega
    · cases h
end Go.Proofs.YtekdmpbkcjjllaaDoor
namespace Go.Proofs.YtekdmpbkcjjllaaDoor
open Go.RowKit
set_option maxRecDepth 100000
theorem ev_or_i64 {P : Program} {l : Env} {F : PH} {H : List Asrt} {d : Option Nat} {T T' U : TypeId} {pos : String} {af : Array Edge} {g : Option (Nat × Bool)} {x y : Operand} {m n : Nat} (hx : opv l x = some (.int .i64 m)) (hy : opv l y = some (.int .i64 n)) (ha : m < 9223372036854775808) (hb : n < 9223372036854775808) : Ev P ⟨d, .binOp .or T x y T', U, pos, af, g⟩ l F H (.int .i64 ((m ||| n : Nat) : Int)) := .of fun ρ hρ w _ => by
  have e1 := hρ _ _ hx; have e2 := hρ _ _ hy
  refine run_v (s := do eqGuard .or T x y (ρ x) (ρ y); binOp .or T (ρ x) (ρ y)) ?_
  rw [e1, e2]
  have hr : (Op.intBits .or .i64 m n).run P w = .ok (.int .i64 ((m ||| n : Nat) : Int)) w := by
    have q1 : (BitVec.ofInt (IntKind.i64).bits (m : Int)).toNat = m := by rw [BitVec.ofInt_natCast, BitVec.toNat_ofNat]; exact Nat.mod_eq_of_lt (Nat.lt_trans ha (by decide))
    have q2 : (BitVec.ofInt (IntKind.i64).bits (n : Int)).toNat = n := by rw [BitVec.ofInt_natCast, BitVec.toNat_ofNat]; exact Nat.mod_eq_of_lt (Nat.lt_trans hb (by decide))
    have hlt : m ||| n < 9223372036854775808 := Nat.or_lt_two_pow (n := 63) ha hb
    have hw : (IntKind.i64).wrap ((m ||| n : Nat) : Int) = ((m ||| n : Nat) : Int) := wrap_in (by dsimp only [InK]; omega)
    show Sem.run P (pure (Value.int .i64 ((IntKind.i64).wrap ((BitVec.ofInt (IntKind.i64).bits (m : Int) ||| BitVec.ofInt (IntKind.i64).bits (n : Int)).toNat : Int)))) w = _
    rw [BitVec.toNat_or, q1, q2, hw]; rfl
  simpa [eqGuard, binOp, go_sem] using hr
def valB (F : PH) (u : Value) (x : W8) : Prop := Byt F u x
theorem unhex_odd : ∀ (w : W8), w.length % 2 = 1 → unhex w = none
  | [], h => by simp at h
  | [_], _ => rfl
  | a :: b :: r, h => by
    have := unhex_odd r (by simp only [List.length_cons] at h; omega)
    unfold unhex
    rw [this]
    split <;> simp_all
theorem drop_two {s : W8} {i : Nat} {a b : UInt8} (ha : s[i]? = some a) (hb : s[i + 1]? = some b) : s.drop i = a :: b :: s.drop (i + 2) := by
  have h1 := (List.getElem?_eq_some_iff.1 ha)
  have h2 := (List.getElem?_eq_some_iff.1 hb)
  obtain ⟨p1, e1⟩ := h1
  obtain ⟨p2, e2⟩ := h2
  rw [List.drop_eq_getElem_cons p1, e1, List.drop_eq_getElem_cons p2, e2]
theorem bytesW_of {s : W8} (h1 : s ≠ [45]) (h2 : s ≠ []) : bytesW s = unhex s := by unfold bytesW; rw [if_neg h1, if_neg h2]
set_option maxHeartbeats 8000000 in
theorem rbytes_spec (b : Nat) (v : Value) (ws : List W8) (odd : Bool) (F : PH) (h : WRow F v ws) : Spec Tryd.prog 36 [pW b] F [wd b v odd] (RdQ b ws odd bytesW valB) := by
  refine Spec.of1 Tryd.func36 rfl rfl fun X w0 => ?_
  have hlen := headD_len h
  unfold RdQ
  rw [tk1_head rfl]
  repeat (first|refine zJ rfl rfl ?_|refine jr rfl ?_|refine jn ?_|refine zM rfl rfl ?_|(refine zC rfl rfl ?_ rfl ?_;omega)|(refine zD rfl rfl ?_ rfl ?_;omega)|(refine zP rfl ?_ rfl ?_;omega)|refine zG rfl rfl rfl rfl ?_|(refine jdq rfl rfl ?_ ?_ ?_;kernel_rfl;kernel_rfl)|refine zB rfl rfl rfl (by repeat constructor) rfl ?_|refine zH .here rfl rfl rfl rfl ?_|refine zH (.there .here) rfl rfl rfl rfl ?_|refine zH (.there (.there .here)) rfl rfl rfl rfl ?_|refine zH (.there (.there (.there .here))) rfl rfl rfl rfl ?_|refine zH (.there (.there (.there (.there .here)))) rfl rfl rfl rfl ?_)
  refine oC (Hc := [wd b v odd]) (Hr := X) (next_spec b v ws odd F h) Tryd.call30 rfl rfl (fun _ s => s) ?_
  rintro _ F1 _ hF1 ⟨v1, rfl, rfl, hv1⟩
  have hem := isEmpty_of_head (ws := ws)
  generalize ws.headD [] = s at *
  show JM _ _ _ _ _ _ _ (blk b 74 [v1, .bool (odd || ws.isEmpty)] :: X)
  unfold pW
  by_cases h45 : s = [45]
  · subst h45
    have hne : ws.isEmpty = false := hem (by simp)
    repeat (first|refine zJ rfl rfl ?_|refine jr rfl ?_|refine jn ?_|refine zM rfl rfl ?_|(refine zC rfl rfl ?_ rfl ?_;omega)|(refine zD rfl rfl ?_ rfl ?_;omega)|(refine zP rfl ?_ rfl ?_;omega)|refine zG rfl rfl rfl rfl ?_|(refine jdq rfl rfl ?_ ?_ ?_;kernel_rfl;kernel_rfl)|refine zB rfl rfl rfl (by repeat constructor) rfl ?_|refine zH .here rfl rfl rfl rfl ?_|refine zH (.there .here) rfl rfl rfl rfl ?_|refine zH (.there (.there .here)) rfl rfl rfl rfl ?_|refine zH (.there (.there (.there .here))) rfl rfl rfl rfl ?_|refine zH (.there (.there (.there (.there .here)))) rfl rfl rfl rfl ?_)
    refine oS (ev_seql (r := true) (cs := [45]) rfl rfl (by decide)) rfl ?_
    repeat (first|refine zJ rfl rfl ?_|refine jr rfl ?_|refine jn ?_|refine zM rfl rfl ?_|(refine zC rfl rfl ?_ rfl ?_;omega)|(refine zD rfl rfl ?_ rfl ?_;omega)|(refine zP rfl ?_ rfl ?_;omega)|refine zG rfl rfl rfl rfl ?_|(refine jdq rfl rfl ?_ ?_ ?_;kernel_rfl;kernel_rfl)|refine zB rfl rfl rfl (by repeat constructor) rfl ?_|refine zH .here rfl rfl rfl rfl ?_|refine zH (.there .here) rfl rfl rfl rfl ?_|refine zH (.there (.there .here)) rfl rfl rfl rfl ?_|refine zH (.there (.there (.there .here))) rfl rfl rfl rfl ?_|refine zH (.there (.there (.there (.there .here)))) rfl rfl rfl rfl ?_)
    exact J_ret1 rfl rfl [wd b v1 (odd || ws.isEmpty)] rfl hF1 ⟨[], v1, odd || ws.isEmpty, SliceV.nil _ _, rfl, hv1, by rw [hne, Bool.or_false]; exact Rd.same⟩
  repeat (first|refine zJ rfl rfl ?_|refine jr rfl ?_|refine jn ?_|refine zM rfl rfl ?_|(refine zC rfl rfl ?_ rfl ?_;omega)|(refine zD rfl rfl ?_ rfl ?_;omega)|(refine zP rfl ?_ rfl ?_;omega)|refine zG rfl rfl rfl rfl ?_|(refine jdq rfl rfl ?_ ?_ ?_;kernel_rfl;kernel_rfl)|refine zB rfl rfl rfl (by repeat constructor) rfl ?_|refine zH .here rfl rfl rfl rfl ?_|refine zH (.there .here) rfl rfl rfl rfl ?_|refine zH (.there (.there .here)) rfl rfl rfl rfl ?_|refine zH (.there (.there (.there .here))) rfl rfl rfl rfl ?_|refine zH (.there (.there (.there (.there .here)))) rfl rfl rfl rfl ?_)
  refine oS (ev_seql (r := false) (cs := [45]) rfl rfl (by simpa using h45)) rfl ?_
  have hsz := strOf_size s
  by_cases h0 : s = []
  · subst h0
    repeat (first|refine zJ rfl rfl ?_|refine jr rfl ?_|refine jn ?_|refine zM rfl rfl ?_|(refine zC rfl rfl ?_ rfl ?_;omega)|(refine zD rfl rfl ?_ rfl ?_;omega)|(refine zP rfl ?_ rfl ?_;omega)|refine zG rfl rfl rfl rfl ?_|(refine jdq rfl rfl ?_ ?_ ?_;kernel_rfl;kernel_rfl)|refine zB rfl rfl rfl (by repeat constructor) rfl ?_|refine zH .here rfl rfl rfl rfl ?_|refine zH (.there .here) rfl rfl rfl rfl ?_|refine zH (.there (.there .here)) rfl rfl rfl rfl ?_|refine zH (.there (.there (.there .here))) rfl rfl rfl rfl ?_|refine zH (.there (.there (.there (.there .here)))) rfl rfl rfl rfl ?_)
    refine oS (ev_seql (r := true) (bs := []) (cs := []) rfl rfl (by decide)) rfl ?_
    repeat (first|refine zJ rfl rfl ?_|refine jr rfl ?_|refine jn ?_|refine zM rfl rfl ?_|(refine zC rfl rfl ?_ rfl ?_;omega)|(refine zD rfl rfl ?_ rfl ?_;omega)|(refine zP rfl ?_ rfl ?_;omega)|refine zG rfl rfl rfl rfl ?_|(refine jdq rfl rfl ?_ ?_ ?_;kernel_rfl;kernel_rfl)|refine zB rfl rfl rfl (by repeat constructor) rfl ?_|refine zH .here rfl rfl rfl rfl ?_|refine zH (.there .here) rfl rfl rfl rfl ?_|refine zH (.there (.there .here)) rfl rfl rfl rfl ?_|refine zH (.there (.there (.there .here))) rfl rfl rfl rfl ?_|refine zH (.there (.there (.there (.there .here)))) rfl rfl rfl rfl ?_)
    refine oN (ev_store rfl rfl .bool rfl rfl (.skip (.put .nil)) (ones_cons rfl ones_nil) .here) rfl ?_
    rintro _ _ _ _ ⟨rfl, _, rfl⟩
    repeat (first|refine zJ rfl rfl ?_|refine jr rfl ?_|refine jn ?_|refine zM rfl rfl ?_|(refine zC rfl rfl ?_ rfl ?_;omega)|(refine zD rfl rfl ?_ rfl ?_;omega)|(refine zP rfl ?_ rfl ?_;omega)|refine zG rfl rfl rfl rfl ?_|(refine jdq rfl rfl ?_ ?_ ?_;kernel_rfl;kernel_rfl)|refine zB rfl rfl rfl (by repeat constructor) rfl ?_|refine zH .here rfl rfl rfl rfl ?_|refine zH (.there .here) rfl rfl rfl rfl ?_|refine zH (.there (.there .here)) rfl rfl rfl rfl ?_|refine zH (.there (.there (.there .here))) rfl rfl rfl rfl ?_|refine zH (.there (.there (.there (.there .here)))) rfl rfl rfl rfl ?_)
    exact J_ret1 rfl rfl [wd b v1 true] rfl hF1 ⟨[], v1, true, SliceV.nil _ _, rfl, hv1, Rd.no fun _ => rfl⟩
  rw [bytesW_of h45 h0]
  have hne : ws.isEmpty = false := hem h0
  rw [hne, Bool.or_false]
  have hl0 : 0 < s.length := List.length_pos_iff.2 h0
  by_cases hodd : s.length % 2 = 1
  · repeat (first|refine zJ rfl rfl ?_|refine jr rfl ?_|refine jn ?_|refine zM rfl rfl ?_|(refine zC rfl rfl ?_ rfl ?_;omega)|(refine zD rfl rfl ?_ rfl ?_;omega)|(refine zP rfl ?_ rfl ?_;omega)|refine zG rfl rfl rfl rfl ?_|(refine jdq rfl rfl ?_ ?_ ?_;kernel_rfl;kernel_rfl)|refine zB rfl rfl rfl (by repeat constructor) rfl ?_|refine zH .here rfl rfl rfl rfl ?_|refine zH (.there .here) rfl rfl rfl rfl ?_|refine zH (.there (.there .here)) rfl rfl rfl rfl ?_|refine zH (.there (.there (.there .here))) rfl rfl rfl rfl ?_|refine zH (.there (.there (.there (.there .here)))) rfl rfl rfl rfl ?_)
    refine oS (ev_seql (r := false) (cs := []) rfl rfl (by simpa using h0)) rfl ?_
    repeat (first|refine zJ rfl rfl ?_|refine jr rfl ?_|refine jn ?_|refine zM rfl rfl ?_|(refine zC rfl rfl ?_ rfl ?_;omega)|(refine zD rfl rfl ?_ rfl ?_;omega)|(refine zP rfl ?_ rfl ?_;omega)|refine zG rfl rfl rfl rfl ?_|(refine jdq rfl rfl ?_ ?_ ?_;kernel_rfl;kernel_rfl)|refine zB rfl rfl rfl (by repeat constructor) rfl ?_|refine zH .here rfl rfl rfl rfl ?_|refine zH (.there .here) rfl rfl rfl rfl ?_|refine zH (.there (.there .here)) rfl rfl rfl rfl ?_|refine zH (.there (.there (.there .here))) rfl rfl rfl rfl ?_|refine zH (.there (.there (.there (.there .here)))) rfl rfl rfl rfl ?_)
    refine oN (ev_store rfl rfl .bool rfl rfl (.skip (.put .nil)) (ones_cons rfl ones_nil) .here) rfl ?_
    rintro _ _ _ _ ⟨rfl, _, rfl⟩
    repeat (first|refine zJ rfl rfl ?_|refine jr rfl ?_|refine jn ?_|refine zM rfl rfl ?_|(refine zC rfl rfl ?_ rfl ?_;omega)|(refine zD rfl rfl ?_ rfl ?_;omega)|(refine zP rfl ?_ rfl ?_;omega)|refine zG rfl rfl rfl rfl ?_|(refine jdq rfl rfl ?_ ?_ ?_;kernel_rfl;kernel_rfl)|refine zB rfl rfl rfl (by repeat constructor) rfl ?_|refine zH .here rfl rfl rfl rfl ?_|refine zH (.there .here) rfl rfl rfl rfl ?_|refine zH (.there (.there .here)) rfl rfl rfl rfl ?_|refine zH (.there (.there (.there .here))) rfl rfl rfl rfl ?_|refine zH (.there (.there (.there (.there .here)))) rfl rfl rfl rfl ?_)
    exact J_ret1 rfl rfl [wd b v1 true] rfl hF1 ⟨[], v1, true, SliceV.nil _ _, rfl, hv1, Rd.no fun _ => unhex_odd s hodd⟩
  repeat (first|refine zJ rfl rfl ?_|refine jr rfl ?_|refine jn ?_|refine zM rfl rfl ?_|(refine zC rfl rfl ?_ rfl ?_;omega)|(refine zD rfl rfl ?_ rfl ?_;omega)|(refine zP rfl ?_ rfl ?_;omega)|refine zG rfl rfl rfl rfl ?_|(refine jdq rfl rfl ?_ ?_ ?_;kernel_rfl;kernel_rfl)|refine zB rfl rfl rfl (by repeat constructor) rfl ?_|refine zH .here rfl rfl rfl rfl ?_|refine zH (.there .here) rfl rfl rfl rfl ?_|refine zH (.there (.there .here)) rfl rfl rfl rfl ?_|refine zH (.there (.there (.there .here))) rfl rfl rfl rfl ?_|refine zH (.there (.there (.there (.there .here)))) rfl rfl rfl rfl ?_)
  refine oS (ev_seql (r := false) (cs := []) rfl rfl (by simpa using h0)) rfl ?_
  repeat (first|refine zJ rfl rfl ?_|refine jr rfl ?_|refine jn ?_|refine zM rfl rfl ?_|(refine zC rfl rfl ?_ rfl ?_;omega)|(refine zD rfl rfl ?_ rfl ?_;omega)|(refine zP rfl ?_ rfl ?_;omega)|refine zG rfl rfl rfl rfl ?_|(refine jdq rfl rfl ?_ ?_ ?_;kernel_rfl;kernel_rfl)|refine zB rfl rfl rfl (by repeat constructor) rfl ?_|refine zH .here rfl rfl rfl rfl ?_|refine zH (.there .here) rfl rfl rfl rfl ?_|refine zH (.there (.there .here)) rfl rfl rfl rfl ?_|refine zH (.there (.there (.there .here))) rfl rfl rfl rfl ?_|refine zH (.there (.there (.there (.there .here)))) rfl rfl rfl rfl ?_)
  refine J_own_nil 5 1 ?_
  refine J_loop (ι := Nat × Value × W8) (fun p => 2 * p.1 ≤ s.length ∧ p.2.2.length = p.1 ∧ unhex s = (unhex (s.drop (2 * p.1))).map fun t => p.2.2 ++ t) (fun p => s.length - 2 * p.1) (fun p => [(0, .pointer (some ⟨b, 0, none⟩)), (3, .string (strOf s)), (4, p.2.1), (5, .int .i64 ((2 * p.1 : Nat) : Int))]) (fun _ => F1)
    (fun p => bytes p.2.1 p.2.2 :: blk b 74 [v1, .bool odd] :: X) (0, .slice none 0 0, []) ⟨by omega, rfl, by simp⟩ ⟨⟨rfl, rfl, rfl, rfl, trivial⟩, fun w s => s⟩ ?_
  rintro ⟨i, u, acc⟩ ⟨hi, hal, hun⟩
  dsimp only at *
  by_cases hlt : 2 * i < s.length
  · obtain ⟨ca, hca⟩ : ∃ ca, s[2 * i]? = some ca := ⟨_, List.getElem?_eq_getElem hlt⟩
    obtain ⟨cb, hcb⟩ : ∃ cb, s[2 * i + 1]? = some cb := ⟨_, List.getElem?_eq_getElem (by omega)⟩
    have hdr := drop_two hca hcb
    have ha := indexByte_hx ca
    have hb := indexByte_hx cb
    repeat (first|refine zJ rfl rfl ?_|refine jr rfl ?_|refine jn ?_|refine zM rfl rfl ?_|(refine zC rfl rfl ?_ rfl ?_;omega)|(refine zD rfl rfl ?_ rfl ?_;omega)|(refine zP rfl ?_ rfl ?_;omega)|refine zG rfl rfl rfl rfl ?_|(refine jdq rfl rfl ?_ ?_ ?_;kernel_rfl;kernel_rfl)|refine zB rfl rfl rfl (by repeat constructor) rfl ?_|refine zH .here rfl rfl rfl rfl ?_|refine zH (.there .here) rfl rfl rfl rfl ?_|refine zH (.there (.there .here)) rfl rfl rfl rfl ?_|refine zH (.there (.there (.there .here))) rfl rfl rfl rfl ?_|refine zH (.there (.there (.there (.there .here)))) rfl rfl rfl rfl ?_)
    refine ja PH.emp [] ?_ (fun w s => s.any) ?_; kernel_rfl
    refine aT 0 rfl (ev_qe rfl) rfl rfl ?_ ?_ ?_ ?_; kernel_rfl; kernel_rfl; kernel_rfl
    refine aT 1 rfl (ev_qe rfl) rfl rfl ?_ ?_ ?_ ?_; kernel_rfl; kernel_rfl; kernel_rfl
    refine aT 2 rfl (ev_ix (bs := s) (c := ca) rfl rfl rfl hca) rfl rfl ?_ ?_ ?_ ?_; kernel_rfl; kernel_rfl; kernel_rfl
    refine aT 4 rfl (ev_qe rfl) rfl rfl ?_ ?_ ?_ ?_; kernel_rfl; kernel_rfl; kernel_rfl
    refine aT 5 rfl (ev_qe rfl) rfl rfl ?_ ?_ ?_ ?_; kernel_rfl; kernel_rfl; kernel_rfl
    refine aT 6 rfl (ea rfl rfl rfl (by dsimp only [InK]; omega)) rfl rfl ?_ ?_ ?_ ?_; kernel_rfl; kernel_rfl; kernel_rfl
    refine aT 7 rfl (ev_ix (bs := s) (i := 2 * i + 1) (c := cb) rfl rfl rfl hcb) rfl rfl ?_ ?_ ?_ ?_; kernel_rfl; kernel_rfl; kernel_rfl
    refine aB (i := 3) (by kernel_rfl) (aP rfl (indexByte_spec hxT ca F1) Tryd.call59 rfl rfl rfl (fun _ s => s.any) ?_)
    refine aB (i := 8) (by kernel_rfl) (aP rfl (indexByte_spec hxT cb F1) Tryd.call59 rfl rfl rfl (fun _ s => s.any) ?_)
    refine aT 9 rfl (ev_qe rfl) rfl rfl ?_ ?_ ?_ ?_; kernel_rfl; kernel_rfl; kernel_rfl
    refine aT 10 rfl (ev_qe rfl) rfl rfl ?_ ?_ ?_ ?_; kernel_rfl; kernel_rfl; kernel_rfl
    refine aD (by kernel_rfl) ?_
    rw [ha, hb]
    rw [hdr] at hun
    cases hna : nib ca with
    | none =>
      dsimp only
      have hno : unhex s = none := by rw [hun, unhex, hna]; simp
      repeat (first|refine zJ rfl rfl ?_|refine jr rfl ?_|refine jn ?_|refine zM rfl rfl ?_|(refine zC rfl rfl ?_ rfl ?_;omega)|(refine zD rfl rfl ?_ rfl ?_;omega)|(refine zP rfl ?_ rfl ?_;omega)|refine zG rfl rfl rfl rfl ?_|(refine jdq rfl rfl ?_ ?_ ?_;kernel_rfl;kernel_rfl)|refine zB rfl rfl rfl (by repeat constructor) rfl ?_|refine zH .here rfl rfl rfl rfl ?_|refine zH (.there .here) rfl rfl rfl rfl ?_|refine zH (.there (.there .here)) rfl rfl rfl rfl ?_|refine zH (.there (.there (.there .here))) rfl rfl rfl rfl ?_|refine zH (.there (.there (.there (.there .here)))) rfl rfl rfl rfl ?_)
      refine oN (ev_store rfl rfl .bool rfl rfl (.skip (.put .nil)) (ones_cons rfl ones_nil) (.there .here)) rfl ?_
      rintro _ _ _ _ ⟨rfl, _, rfl⟩
      repeat (first|refine zJ rfl rfl ?_|refine jr rfl ?_|refine jn ?_|refine zM rfl rfl ?_|(refine zC rfl rfl ?_ rfl ?_;omega)|(refine zD rfl rfl ?_ rfl ?_;omega)|(refine zP rfl ?_ rfl ?_;omega)|refine zG rfl rfl rfl rfl ?_|(refine jdq rfl rfl ?_ ?_ ?_;kernel_rfl;kernel_rfl)|refine zB rfl rfl rfl (by repeat constructor) rfl ?_|refine zH .here rfl rfl rfl rfl ?_|refine zH (.there .here) rfl rfl rfl rfl ?_|refine zH (.there (.there .here)) rfl rfl rfl rfl ?_|refine zH (.there (.there (.there .here))) rfl rfl rfl rfl ?_|refine zH (.there (.there (.there (.there .here)))) rfl rfl rfl rfl ?_)
      exact J_retv (vs := [.slice none 0 0]) rfl (.tmp rfl .nil) [wd b v1 true] (fun w s => s.drop) hF1 ⟨[], v1, true, SliceV.nil _ _, rfl, hv1, Rd.no fun _ => hno⟩
    | some na =>
      cases hnb : nib cb with
      | none =>
        dsimp only
        have hno : unhex s = none := by rw [hun, unhex, hna, hnb]; simp
        repeat (first|refine zJ rfl rfl ?_|refine jr rfl ?_|refine jn ?_|refine zM rfl rfl ?_|(refine zC rfl rfl ?_ rfl ?_;omega)|(refine zD rfl rfl ?_ rfl ?_;omega)|(refine zP rfl ?_ rfl ?_;omega)|refine zG rfl rfl rfl rfl ?_|(refine jdq rfl rfl ?_ ?_ ?_;kernel_rfl;kernel_rfl)|refine zB rfl rfl rfl (by repeat constructor) rfl ?_|refine zH .here rfl rfl rfl rfl ?_|refine zH (.there .here) rfl rfl rfl rfl ?_|refine zH (.there (.there .here)) rfl rfl rfl rfl ?_|refine zH (.there (.there (.there .here))) rfl rfl rfl rfl ?_|refine zH (.there (.there (.there (.there .here)))) rfl rfl rfl rfl ?_)
        refine oN (ev_store rfl rfl .bool rfl rfl (.skip (.put .nil)) (ones_cons rfl ones_nil) (.there .here)) rfl ?_
        rintro _ _ _ _ ⟨rfl, _, rfl⟩
        repeat (first|refine zJ rfl rfl ?_|refine jr rfl ?_|refine jn ?_|refine zM rfl rfl ?_|(refine zC rfl rfl ?_ rfl ?_;omega)|(refine zD rfl rfl ?_ rfl ?_;omega)|(refine zP rfl ?_ rfl ?_;omega)|refine zG rfl rfl rfl rfl ?_|(refine jdq rfl rfl ?_ ?_ ?_;kernel_rfl;kernel_rfl)|refine zB rfl rfl rfl (by repeat constructor) rfl ?_|refine zH .here rfl rfl rfl rfl ?_|refine zH (.there .here) rfl rfl rfl rfl ?_|refine zH (.there (.there .here)) rfl rfl rfl rfl ?_|refine zH (.there (.there (.there .here))) rfl rfl rfl rfl ?_|refine zH (.there (.there (.there (.there .here)))) rfl rfl rfl rfl ?_)
        exact J_retv (vs := [.slice none 0 0]) rfl (.tmp rfl .nil) [wd b v1 true] (fun w s => s.drop) hF1 ⟨[], v1, true, SliceV.nil _ _, rfl, hv1, Rd.no fun _ => hno⟩
      | some nb =>
        dsimp only
        have la := nib_lt hna
        have lb := nib_lt hnb
        have hbyte : (UInt8.ofNat (16 * na + nb)).toNat = 16 * na + nb := by rw [UInt8.toNat_ofNat']; exact Nat.mod_eq_of_lt (by omega)
        have hor : ((na * 16 : Nat) ||| nb) = 16 * na + nb := by
          have := Nat.shiftLeft_add_eq_or_of_lt (i := 4) (show nb < 2 ^ 4 by omega) na
          rw [Nat.shiftLeft_eq] at this
          rw [← this]
          omega
        repeat (first|refine zJ rfl rfl ?_|refine jr rfl ?_|refine jn ?_|refine zM rfl rfl ?_|(refine zC rfl rfl ?_ rfl ?_;omega)|(refine zD rfl rfl ?_ rfl ?_;omega)|(refine zP rfl ?_ rfl ?_;omega)|refine zG rfl rfl rfl rfl ?_|(refine jdq rfl rfl ?_ ?_ ?_;kernel_rfl;kernel_rfl)|refine zB rfl rfl rfl (by repeat constructor) rfl ?_|refine zH .here rfl rfl rfl rfl ?_|refine zH (.there .here) rfl rfl rfl rfl ?_|refine zH (.there (.there .here)) rfl rfl rfl rfl ?_|refine zH (.there (.there (.there .here))) rfl rfl rfl rfl ?_|refine zH (.there (.there (.there (.there .here)))) rfl rfl rfl rfl ?_)
        refine oS (ev_shl (m := na) (n := 4) (r := ((na * 16 : Nat) : Int)) rfl rfl (by rw [show (min 4 (IntKind.i64).bits) = 4 from rfl]; exact (wrap_in (by dsimp only [InK]; omega)).trans (by omega))) rfl ?_
        repeat (first|refine zJ rfl rfl ?_|refine jr rfl ?_|refine jn ?_|refine zM rfl rfl ?_|(refine zC rfl rfl ?_ rfl ?_;omega)|(refine zD rfl rfl ?_ rfl ?_;omega)|(refine zP rfl ?_ rfl ?_;omega)|refine zG rfl rfl rfl rfl ?_|(refine jdq rfl rfl ?_ ?_ ?_;kernel_rfl;kernel_rfl)|refine zB rfl rfl rfl (by repeat constructor) rfl ?_|refine zH .here rfl rfl rfl rfl ?_|refine zH (.there .here) rfl rfl rfl rfl ?_|refine zH (.there (.there .here)) rfl rfl rfl rfl ?_|refine zH (.there (.there (.there .here))) rfl rfl rfl rfl ?_|refine zH (.there (.there (.there (.there .here)))) rfl rfl rfl rfl ?_)
        refine oS (ev_or_i64 (m := na * 16) (n := nb) rfl rfl (by omega) (by omega)) rfl ?_
        rw [hor]
        refine oS (ev_conv (r := ((UInt8.ofNat (16 * na + nb)).toNat : Int)) rfl rfl rfl (by rw [hbyte]; exact wrap_in (by dsimp only [InK]; omega))) rfl ?_
        refine ob_push (b := UInt8.ofNat (16 * na + nb)) (bs := acc) (K := fun v' => bytes v' (acc ++ [UInt8.ofNat (16 * na + nb)]) :: blk b 74 [v1, .bool odd] :: X) rfl (fun _ => rfl) rfl (by omega) (fun v' => .here) rfl (fun _ => rfl) fun u2 w2 => ?_
        repeat (first|refine zJ rfl rfl ?_|refine jr rfl ?_|refine jn ?_|refine zM rfl rfl ?_|(refine zC rfl rfl ?_ rfl ?_;omega)|(refine zD rfl rfl ?_ rfl ?_;omega)|(refine zP rfl ?_ rfl ?_;omega)|refine zG rfl rfl rfl rfl ?_|(refine jdq rfl rfl ?_ ?_ ?_;kernel_rfl;kernel_rfl)|refine zB rfl rfl rfl (by repeat constructor) rfl ?_|refine zH .here rfl rfl rfl rfl ?_|refine zH (.there .here) rfl rfl rfl rfl ?_|refine zH (.there (.there .here)) rfl rfl rfl rfl ?_|refine zH (.there (.there (.there .here))) rfl rfl rfl rfl ?_|refine zH (.there (.there (.there (.there .here)))) rfl rfl rfl rfl ?_)
        refine J_again (ι := Nat × Value × W8) (i + 1, u2, acc ++ [UInt8.ofNat (16 * na + nb)]) ⟨by dsimp only; omega, by simp [hal], ?_⟩ (by dsimp only; omega) ⟨⟨rfl, rfl, rfl, ?_, trivial⟩, fun w s => s⟩
        · dsimp only
          rw [hun, unhex, hna, hnb, show 2 * (i + 1) = 2 * i + 2 from by omega]
          cases unhex (s.drop (2 * i + 2)) <;> simp
        · exact congrArg (fun z : Int => some (Value.int .i64 z)) (by omega)
  · have he : 2 * i = s.length := by omega
    rw [he, List.drop_length] at hun
    refine J_persist fun hh hA hd => ?_
    have hbt := own_slice hA hd
    have hF2 := PH.le_l F1 hh
    generalize F1.un hh = F2 at *
    repeat (first|refine zJ rfl rfl ?_|refine jr rfl ?_|refine jn ?_|refine zM rfl rfl ?_|(refine zC rfl rfl ?_ rfl ?_;omega)|(refine zD rfl rfl ?_ rfl ?_;omega)|(refine zP rfl ?_ rfl ?_;omega)|refine zG rfl rfl rfl rfl ?_|(refine jdq rfl rfl ?_ ?_ ?_;kernel_rfl;kernel_rfl)|refine zB rfl rfl rfl (by repeat constructor) rfl ?_|refine zH .here rfl rfl rfl rfl ?_|refine zH (.there .here) rfl rfl rfl rfl ?_|refine zH (.there (.there .here)) rfl rfl rfl rfl ?_|refine zH (.there (.there (.there .here))) rfl rfl rfl rfl ?_|refine zH (.there (.there (.there (.there .here)))) rfl rfl rfl rfl ?_)
    refine J_ret1 rfl rfl [wd b v1 odd] rfl (hF1.trans hF2) ⟨acc, v1, odd, hbt, rfl, hv1.mono hF2, ?_⟩
    rw [hun]
    simp only [unhex, Option.map_some, List.append_nil]
    exact Rd.same
theorem indexByte_mem (s : W8) (c : UInt8) : decide (0 ≤ Lib.indexByte s c) = s.contains c := by
  induction s with
  | nil => rfl
  | cons b r ih =>
    have hg := Lib.indexByte_ge r c
    unfold Lib.indexByte
    rw [List.contains_cons]
    by_cases h : b = c
    · subst h; simp
    · have h1 : (b == c) = false := by simpa using h
      have h2 : (c == b) = false := by simpa using fun e : c = b => h e.symm
      rw [h1, h2, Bool.false_or, ← ih]
      by_cases e : Lib.indexByte r c = -1
      · simp [e]
      · simp [e]
        omega
theorem letterB_false {s : W8} (h : s = [] ∨ 64 < s.length ∨ s.contains 32 = true ∨ s.contains 10 = true) : letterB s = false := by
  unfold letterB
  rcases h with h | h | h | h
  · subst h; rfl
  · rw [decide_eq_false (show ¬ s.length ≤ 64 by omega)]; simp
  · rw [h]; simp
  · rw [h]; simp
theorem letterB_true {s : W8} (h1 : s ≠ []) (h2 : s.length ≤ 64) (h3 : s.contains 32 = false) (h4 : s.contains 10 = false) : letterB s = true := by
  unfold letterB
  rw [decide_eq_true h1, decide_eq_true h2, h3, h4]; rfl
set_option maxHeartbeats 2000000 in
theorem lettered_spec (s : W8) (F : PH) (hs : s.length ≤ 2000000) : Pure Tryd.prog 71 [.string (strOf s)] F (.bool (letterB s)) := by
  refine Spec.of1 Tryd.func71 rfl rfl fun X w0 => ?_
  have hsz := strOf_size s
  by_cases h0 : s = []
  · rw [letterB_false (.inl h0)]
    repeat (first|refine zJ rfl rfl ?_|refine jr rfl ?_|refine jn ?_|refine zM rfl rfl ?_|(refine zC rfl rfl ?_ rfl ?_;omega)|(refine zD rfl rfl ?_ rfl ?_;omega)|(refine zP rfl ?_ rfl ?_;omega)|refine zG rfl rfl rfl rfl ?_|(refine jdq rfl rfl ?_ ?_ ?_;kernel_rfl;kernel_rfl)|refine zB rfl rfl rfl (by repeat constructor) rfl ?_|refine zH .here rfl rfl rfl rfl ?_|refine zH (.there .here) rfl rfl rfl rfl ?_|refine zH (.there (.there .here)) rfl rfl rfl rfl ?_|refine zH (.there (.there (.there .here))) rfl rfl rfl rfl ?_|refine zH (.there (.there (.there (.there .here)))) rfl rfl rfl rfl ?_)
    refine oS (ev_sneq (r := false) (cs := []) rfl rfl (by simp [h0])) rfl ?_
    repeat (first|refine zJ rfl rfl ?_|refine jr rfl ?_|refine jn ?_|refine zM rfl rfl ?_|(refine zC rfl rfl ?_ rfl ?_;omega)|(refine zD rfl rfl ?_ rfl ?_;omega)|(refine zP rfl ?_ rfl ?_;omega)|refine zG rfl rfl rfl rfl ?_|(refine jdq rfl rfl ?_ ?_ ?_;kernel_rfl;kernel_rfl)|refine zB rfl rfl rfl (by repeat constructor) rfl ?_|refine zH .here rfl rfl rfl rfl ?_|refine zH (.there .here) rfl rfl rfl rfl ?_|refine zH (.there (.there .here)) rfl rfl rfl rfl ?_|refine zH (.there (.there (.there .here))) rfl rfl rfl rfl ?_|refine zH (.there (.there (.there (.there .here)))) rfl rfl rfl rfl ?_)
    exact J_ret1 rfl rfl [] rfl (PH.ler _) ⟨rfl, rfl⟩
  by_cases h1 : 64 < s.length
  · rw [letterB_false (.inr (.inl h1))]
    repeat (first|refine zJ rfl rfl ?_|refine jr rfl ?_|refine jn ?_|refine zM rfl rfl ?_|(refine zC rfl rfl ?_ rfl ?_;omega)|(refine zD rfl rfl ?_ rfl ?_;omega)|(refine zP rfl ?_ rfl ?_;omega)|refine zG rfl rfl rfl rfl ?_|(refine jdq rfl rfl ?_ ?_ ?_;kernel_rfl;kernel_rfl)|refine zB rfl rfl rfl (by repeat constructor) rfl ?_|refine zH .here rfl rfl rfl rfl ?_|refine zH (.there .here) rfl rfl rfl rfl ?_|refine zH (.there (.there .here)) rfl rfl rfl rfl ?_|refine zH (.there (.there (.there .here))) rfl rfl rfl rfl ?_|refine zH (.there (.there (.there (.there .here)))) rfl rfl rfl rfl ?_)
    refine oS (ev_sneq (r := true) (cs := []) rfl rfl (by simp [h0])) rfl ?_
    repeat (first|refine zJ rfl rfl ?_|refine jr rfl ?_|refine jn ?_|refine zM rfl rfl ?_|(refine zC rfl rfl ?_ rfl ?_;omega)|(refine zD rfl rfl ?_ rfl ?_;omega)|(refine zP rfl ?_ rfl ?_;omega)|refine zG rfl rfl rfl rfl ?_|(refine jdq rfl rfl ?_ ?_ ?_;kernel_rfl;kernel_rfl)|refine zB rfl rfl rfl (by repeat constructor) rfl ?_|refine zH .here rfl rfl rfl rfl ?_|refine zH (.there .here) rfl rfl rfl rfl ?_|refine zH (.there (.there .here)) rfl rfl rfl rfl ?_|refine zH (.there (.there (.there .here))) rfl rfl rfl rfl ?_|refine zH (.there (.there (.there (.there .here)))) rfl rfl rfl rfl ?_)
    exact J_ret1 rfl rfl [] rfl (PH.ler _) ⟨rfl, rfl⟩
  have c32 := contains_spec s 32 F
  have c10 := contains_spec s 10 F
  rw [indexByte_mem] at c32 c10
  cases h2 : s.contains 32 with
  | true =>
    rw [letterB_false (.inr (.inr (.inl h2)))]
    rw [h2] at c32
    repeat (first|refine zJ rfl rfl ?_|refine jr rfl ?_|refine jn ?_|refine zM rfl rfl ?_|(refine zC rfl rfl ?_ rfl ?_;omega)|(refine zD rfl rfl ?_ rfl ?_;omega)|(refine zP rfl ?_ rfl ?_;omega)|refine zG rfl rfl rfl rfl ?_|(refine jdq rfl rfl ?_ ?_ ?_;kernel_rfl;kernel_rfl)|refine zB rfl rfl rfl (by repeat constructor) rfl ?_|refine zH .here rfl rfl rfl rfl ?_|refine zH (.there .here) rfl rfl rfl rfl ?_|refine zH (.there (.there .here)) rfl rfl rfl rfl ?_|refine zH (.there (.there (.there .here))) rfl rfl rfl rfl ?_|refine zH (.there (.there (.there (.there .here)))) rfl rfl rfl rfl ?_)
    refine oS (ev_sneq (r := true) (cs := []) rfl rfl (by simp [h0])) rfl ?_
    repeat (first|refine zJ rfl rfl ?_|refine jr rfl ?_|refine jn ?_|refine zM rfl rfl ?_|(refine zC rfl rfl ?_ rfl ?_;omega)|(refine zD rfl rfl ?_ rfl ?_;omega)|(refine zP rfl ?_ rfl ?_;omega)|refine zG rfl rfl rfl rfl ?_|(refine jdq rfl rfl ?_ ?_ ?_;kernel_rfl;kernel_rfl)|refine zB rfl rfl rfl (by repeat constructor) rfl ?_|refine zH .here rfl rfl rfl rfl ?_|refine zH (.there .here) rfl rfl rfl rfl ?_|refine zH (.there (.there .here)) rfl rfl rfl rfl ?_|refine zH (.there (.there (.there .here))) rfl rfl rfl rfl ?_|refine zH (.there (.there (.there (.there .here)))) rfl rfl rfl rfl ?_)
    refine oP (c32) Tryd.call83 rfl rfl ?_
    repeat (first|refine zJ rfl rfl ?_|refine jr rfl ?_|refine jn ?_|refine zM rfl rfl ?_|(refine zC rfl rfl ?_ rfl ?_;omega)|(refine zD rfl rfl ?_ rfl ?_;omega)|(refine zP rfl ?_ rfl ?_;omega)|refine zG rfl rfl rfl rfl ?_|(refine jdq rfl rfl ?_ ?_ ?_;kernel_rfl;kernel_rfl)|refine zB rfl rfl rfl (by repeat constructor) rfl ?_|refine zH .here rfl rfl rfl rfl ?_|refine zH (.there .here) rfl rfl rfl rfl ?_|refine zH (.there (.there .here)) rfl rfl rfl rfl ?_|refine zH (.there (.there (.there .here))) rfl rfl rfl rfl ?_|refine zH (.there (.there (.there (.there .here)))) rfl rfl rfl rfl ?_)
    exact J_ret1 rfl rfl [] rfl (PH.ler _) ⟨rfl, rfl⟩
  | false =>
    rw [h2] at c32
    cases h3 : s.contains 10 with
    | true =>
      rw [letterB_false (.inr (.inr (.inr h3)))]
      rw [h3] at c10
      repeat (first|refine zJ rfl rfl ?_|refine jr rfl ?_|refine jn ?_|refine zM rfl rfl ?_|(refine zC rfl rfl ?_ rfl ?_;omega)|(refine zD rfl rfl ?_ rfl ?_;omega)|(refine zP rfl ?_ rfl ?_;omega)|refine zG rfl rfl rfl rfl ?_|(refine jdq rfl rfl ?_ ?_ ?_;kernel_rfl;kernel_rfl)|refine zB rfl rfl rfl (by repeat constructor) rfl ?_|refine zH .here rfl rfl rfl rfl ?_|refine zH (.there .here) rfl rfl rfl rfl ?_|refine zH (.there (.there .here)) rfl rfl rfl rfl ?_|refine zH (.there (.there (.there .here))) rfl rfl rfl rfl ?_|refine zH (.there (.there (.there (.there .here)))) rfl rfl rfl rfl ?_)
      refine oS (ev_sneq (r := true) (cs := []) rfl rfl (by simp [h0])) rfl ?_
      repeat (first|refine zJ rfl rfl ?_|refine jr rfl ?_|refine jn ?_|refine zM rfl rfl ?_|(refine zC rfl rfl ?_ rfl ?_;omega)|(refine zD rfl rfl ?_ rfl ?_;omega)|(refine zP rfl ?_ rfl ?_;omega)|refine zG rfl rfl rfl rfl ?_|(refine jdq rfl rfl ?_ ?_ ?_;kernel_rfl;kernel_rfl)|refine zB rfl rfl rfl (by repeat constructor) rfl ?_|refine zH .here rfl rfl rfl rfl ?_|refine zH (.there .here) rfl rfl rfl rfl ?_|refine zH (.there (.there .here)) rfl rfl rfl rfl ?_|refine zH (.there (.there (.there .here))) rfl rfl rfl rfl ?_|refine zH (.there (.there (.there (.there .here)))) rfl rfl rfl rfl ?_)
      refine oP (c32) Tryd.call83 rfl rfl ?_
      repeat (first|refine zJ rfl rfl ?_|refine jr rfl ?_|refine jn ?_|refine zM rfl rfl ?_|(refine zC rfl rfl ?_ rfl ?_;omega)|(refine zD rfl rfl ?_ rfl ?_;omega)|(refine zP rfl ?_ rfl ?_;omega)|refine zG rfl rfl rfl rfl ?_|(refine jdq rfl rfl ?_ ?_ ?_;kernel_rfl;kernel_rfl)|refine zB rfl rfl rfl (by repeat constructor) rfl ?_|refine zH .here rfl rfl rfl rfl ?_|refine zH (.there .here) rfl rfl rfl rfl ?_|refine zH (.there (.there .here)) rfl rfl rfl rfl ?_|refine zH (.there (.there (.there .here))) rfl rfl rfl rfl ?_|refine zH (.there (.there (.there (.there .here)))) rfl rfl rfl rfl ?_)
      refine oP (c10) Tryd.call83 rfl rfl ?_
      repeat (first|refine zJ rfl rfl ?_|refine jr rfl ?_|refine jn ?_|refine zM rfl rfl ?_|(refine zC rfl rfl ?_ rfl ?_;omega)|(refine zD rfl rfl ?_ rfl ?_;omega)|(refine zP rfl ?_ rfl ?_;omega)|refine zG rfl rfl rfl rfl ?_|(refine jdq rfl rfl ?_ ?_ ?_;kernel_rfl;kernel_rfl)|refine zB rfl rfl rfl (by repeat constructor) rfl ?_|refine zH .here rfl rfl rfl rfl ?_|refine zH (.there .here) rfl rfl rfl rfl ?_|refine zH (.there (.there .here)) rfl rfl rfl rfl ?_|refine zH (.there (.there (.there .here))) rfl rfl rfl rfl ?_|refine zH (.there (.there (.there (.there .here)))) rfl rfl rfl rfl ?_)
      exact J_ret1 rfl rfl [] rfl (PH.ler _) ⟨rfl, rfl⟩
    | false =>
      rw [letterB_true h0 (by omega) h2 h3]
      rw [h3] at c10
      repeat (first|refine zJ rfl rfl ?_|refine jr rfl ?_|refine jn ?_|refine zM rfl rfl ?_|(refine zC rfl rfl ?_ rfl ?_;omega)|(refine zD rfl rfl ?_ rfl ?_;omega)|(refine zP rfl ?_ rfl ?_;omega)|refine zG rfl rfl rfl rfl ?_|(refine jdq rfl rfl ?_ ?_ ?_;kernel_rfl;kernel_rfl)|refine zB rfl rfl rfl (by repeat constructor) rfl ?_|refine zH .here rfl rfl rfl rfl ?_|refine zH (.there .here) rfl rfl rfl rfl ?_|refine zH (.there (.there .here)) rfl rfl rfl rfl ?_|refine zH (.there (.there (.there .here))) rfl rfl rfl rfl ?_|refine zH (.there (.there (.there (.there .here)))) rfl rfl rfl rfl ?_)
      refine oS (ev_sneq (r := true) (cs := []) rfl rfl (by simp [h0])) rfl ?_
      repeat (first|refine zJ rfl rfl ?_|refine jr rfl ?_|refine jn ?_|refine zM rfl rfl ?_|(refine zC rfl rfl ?_ rfl ?_;omega)|(refine zD rfl rfl ?_ rfl ?_;omega)|(refine zP rfl ?_ rfl ?_;omega)|refine zG rfl rfl rfl rfl ?_|(refine jdq rfl rfl ?_ ?_ ?_;kernel_rfl;kernel_rfl)|refine zB rfl rfl rfl (by repeat constructor) rfl ?_|refine zH .here rfl rfl rfl rfl ?_|refine zH (.there .here) rfl rfl rfl rfl ?_|refine zH (.there (.there .here)) rfl rfl rfl rfl ?_|refine zH (.there (.there (.there .here))) rfl rfl rfl rfl ?_|refine zH (.there (.there (.there (.there .here)))) rfl rfl rfl rfl ?_)
      refine oP (c32) Tryd.call83 rfl rfl ?_
      repeat (first|refine zJ rfl rfl ?_|refine jr rfl ?_|refine jn ?_|refine zM rfl rfl ?_|(refine zC rfl rfl ?_ rfl ?_;omega)|(refine zD rfl rfl ?_ rfl ?_;omega)|(refine zP rfl ?_ rfl ?_;omega)|refine zG rfl rfl rfl rfl ?_|(refine jdq rfl rfl ?_ ?_ ?_;kernel_rfl;kernel_rfl)|refine zB rfl rfl rfl (by repeat constructor) rfl ?_|refine zH .here rfl rfl rfl rfl ?_|refine zH (.there .here) rfl rfl rfl rfl ?_|refine zH (.there (.there .here)) rfl rfl rfl rfl ?_|refine zH (.there (.there (.there .here))) rfl rfl rfl rfl ?_|refine zH (.there (.there (.there (.there .here)))) rfl rfl rfl rfl ?_)
      refine oP (c10) Tryd.call83 rfl rfl ?_
      repeat (first|refine zJ rfl rfl ?_|refine jr rfl ?_|refine jn ?_|refine zM rfl rfl ?_|(refine zC rfl rfl ?_ rfl ?_;omega)|(refine zD rfl rfl ?_ rfl ?_;omega)|(refine zP rfl ?_ rfl ?_;omega)|refine zG rfl rfl rfl rfl ?_|(refine jdq rfl rfl ?_ ?_ ?_;kernel_rfl;kernel_rfl)|refine zB rfl rfl rfl (by repeat constructor) rfl ?_|refine zH .here rfl rfl rfl rfl ?_|refine zH (.there .here) rfl rfl rfl rfl ?_|refine zH (.there (.there .here)) rfl rfl rfl rfl ?_|refine zH (.there (.there (.there .here))) rfl rfl rfl rfl ?_|refine zH (.there (.there (.there (.there .here)))) rfl rfl rfl rfl ?_)
      exact J_ret1 rfl rfl [] rfl (PH.ler _) ⟨rfl, rfl⟩
def valS (_ : PH) (u : Value) (x : W8) : Prop := u = .string (strOf x) ∧ x.length ≤ 2000000
theorem letter_spec (b : Nat) (v : Value) (ws : List W8) (odd : Bool) (F : PH) (h : WRow F v ws) : Spec Tryd.prog 58 [pW b] F [wd b v odd] (RdQ b ws odd letterW valS) := by
  refine Spec.of1 Tryd.func58 rfl rfl fun X w0 => ?_
  have hlen := headD_len h
  unfold RdQ
  rw [tk1_head rfl]
  repeat (first|refine zJ rfl rfl ?_|refine jr rfl ?_|refine jn ?_|refine zM rfl rfl ?_|(refine zC rfl rfl ?_ rfl ?_;omega)|(refine zD rfl rfl ?_ rfl ?_;omega)|(refine zP rfl ?_ rfl ?_;omega)|refine zG rfl rfl rfl rfl ?_|(refine jdq rfl rfl ?_ ?_ ?_;kernel_rfl;kernel_rfl)|refine zB rfl rfl rfl (by repeat constructor) rfl ?_|refine zH .here rfl rfl rfl rfl ?_|refine zH (.there .here) rfl rfl rfl rfl ?_|refine zH (.there (.there .here)) rfl rfl rfl rfl ?_|refine zH (.there (.there (.there .here))) rfl rfl rfl rfl ?_|refine zH (.there (.there (.there (.there .here)))) rfl rfl rfl rfl ?_)
  refine oC (Hc := [wd b v odd]) (Hr := X) (next_spec b v ws odd F h) Tryd.call30 rfl rfl (fun _ s => s) ?_
  rintro _ F1 _ hF1 ⟨v1, rfl, rfl, hv1⟩
  have hem := isEmpty_of_head (ws := ws)
  generalize ws.headD [] = s at *
  show JM _ _ _ _ _ _ _ (blk b 74 [v1, .bool (odd || ws.isEmpty)] :: X)
  unfold pW
  have hL := lettered_spec s F1 hlen
  cases hb : letterB s with
  | true =>
    rw [hb] at hL
    repeat (first|refine zJ rfl rfl ?_|refine jr rfl ?_|refine jn ?_|refine zM rfl rfl ?_|(refine zC rfl rfl ?_ rfl ?_;omega)|(refine zD rfl rfl ?_ rfl ?_;omega)|(refine zP rfl ?_ rfl ?_;omega)|refine zG rfl rfl rfl rfl ?_|(refine jdq rfl rfl ?_ ?_ ?_;kernel_rfl;kernel_rfl)|refine zB rfl rfl rfl (by repeat constructor) rfl ?_|refine zH .here rfl rfl rfl rfl ?_|refine zH (.there .here) rfl rfl rfl rfl ?_|refine zH (.there (.there .here)) rfl rfl rfl rfl ?_|refine zH (.there (.there (.there .here))) rfl rfl rfl rfl ?_|refine zH (.there (.there (.there (.there .here)))) rfl rfl rfl rfl ?_)
    refine oP (hL) Tryd.call71 rfl rfl ?_
    repeat (first|refine zJ rfl rfl ?_|refine jr rfl ?_|refine jn ?_|refine zM rfl rfl ?_|(refine zC rfl rfl ?_ rfl ?_;omega)|(refine zD rfl rfl ?_ rfl ?_;omega)|(refine zP rfl ?_ rfl ?_;omega)|refine zG rfl rfl rfl rfl ?_|(refine jdq rfl rfl ?_ ?_ ?_;kernel_rfl;kernel_rfl)|refine zB rfl rfl rfl (by repeat constructor) rfl ?_|refine zH .here rfl rfl rfl rfl ?_|refine zH (.there .here) rfl rfl rfl rfl ?_|refine zH (.there (.there .here)) rfl rfl rfl rfl ?_|refine zH (.there (.there (.there .here))) rfl rfl rfl rfl ?_|refine zH (.there (.there (.there (.there .here)))) rfl rfl rfl rfl ?_)
    have hne : ws.isEmpty = false := hem (fun e => by rw [e] at hb; cases hb)
    refine J_ret1 rfl rfl [wd b v1 (odd || ws.isEmpty)] rfl hF1 ⟨s, v1, odd || ws.isEmpty, ⟨rfl, hlen⟩, rfl, hv1, ?_⟩
    rw [hne, Bool.or_false, show letterW s = some s from if_pos hb]
    exact Rd.same
  | false =>
    rw [hb] at hL
    repeat (first|refine zJ rfl rfl ?_|refine jr rfl ?_|refine jn ?_|refine zM rfl rfl ?_|(refine zC rfl rfl ?_ rfl ?_;omega)|(refine zD rfl rfl ?_ rfl ?_;omega)|(refine zP rfl ?_ rfl ?_;omega)|refine zG rfl rfl rfl rfl ?_|(refine jdq rfl rfl ?_ ?_ ?_;kernel_rfl;kernel_rfl)|refine zB rfl rfl rfl (by repeat constructor) rfl ?_|refine zH .here rfl rfl rfl rfl ?_|refine zH (.there .here) rfl rfl rfl rfl ?_|refine zH (.there (.there .here)) rfl rfl rfl rfl ?_|refine zH (.there (.there (.there .here))) rfl rfl rfl rfl ?_|refine zH (.there (.there (.there (.there .here)))) rfl rfl rfl rfl ?_)
    refine oP (hL) Tryd.call71 rfl rfl ?_
    repeat (first|refine zJ rfl rfl ?_|refine jr rfl ?_|refine jn ?_|refine zM rfl rfl ?_|(refine zC rfl rfl ?_ rfl ?_;omega)|(refine zD rfl rfl ?_ rfl ?_;omega)|(refine zP rfl ?_ rfl ?_;omega)|refine zG rfl rfl rfl rfl ?_|(refine jdq rfl rfl ?_ ?_ ?_;kernel_rfl;kernel_rfl)|refine zB rfl rfl rfl (by repeat constructor) rfl ?_|refine zH .here rfl rfl rfl rfl ?_|refine zH (.there .here) rfl rfl rfl rfl ?_|refine zH (.there (.there .here)) rfl rfl rfl rfl ?_|refine zH (.there (.there (.there .here))) rfl rfl rfl rfl ?_|refine zH (.there (.there (.there (.there .here)))) rfl rfl rfl rfl ?_)
    refine oN (ev_store rfl rfl .bool rfl rfl (.skip (.put .nil)) (ones_cons rfl ones_nil) .here) rfl ?_
    rintro _ _ _ _ ⟨rfl, _, rfl⟩
    repeat (first|refine zJ rfl rfl ?_|refine jr rfl ?_|refine jn ?_|refine zM rfl rfl ?_|(refine zC rfl rfl ?_ rfl ?_;omega)|(refine zD rfl rfl ?_ rfl ?_;omega)|(refine zP rfl ?_ rfl ?_;omega)|refine zG rfl rfl rfl rfl ?_|(refine jdq rfl rfl ?_ ?_ ?_;kernel_rfl;kernel_rfl)|refine zB rfl rfl rfl (by repeat constructor) rfl ?_|refine zH .here rfl rfl rfl rfl ?_|refine zH (.there .here) rfl rfl rfl rfl ?_|refine zH (.there (.there .here)) rfl rfl rfl rfl ?_|refine zH (.there (.there (.there .here))) rfl rfl rfl rfl ?_|refine zH (.there (.there (.there (.there .here)))) rfl rfl rfl rfl ?_)
    exact J_ret1 rfl rfl [wd b v1 true] rfl hF1 ⟨s, v1, true, ⟨rfl, hlen⟩, rfl, hv1, Rd.no fun _ => if_neg (by rw [hb]; simp)⟩
end Go.Proofs.YtekdmpbkcjjllaaDoor
