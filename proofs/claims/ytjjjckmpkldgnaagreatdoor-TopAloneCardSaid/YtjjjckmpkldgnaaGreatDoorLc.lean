/-
  Arrays as values: their literals, and their cells. Conditions are typed with each.
  The reckoner's operations are the model's: cuts, literals, functions and interfaces made, conversions, lengths. Plain theorems; no condition.
  The reckoner's operations are the model's: literals, functions and interfaces made, conversions, lengths. Plain theorems; no condition.
-/
import Derived.Test.YtjjjckmpkldgnaaGreatDoorUf
namespace Go.Proofs.YtjjjckmpkldgnaaGreatDoor
open Go.RowKit
set_option maxRecDepth 100000
section
variable {P : Program} {l : Env} {F : PH} {H Hr : List Asrt} {d : Option Nat} {T T' U E : TypeId} {pos : String} {af : Array Edge} {g : Option (Nat × Bool)} {x y z : Operand}
/-- An array's literal. -/
theorem ev_build_arr {ps : List (Nat × Operand)} {vs : List (Nat × Value)} {n size : Nat} {zs t : List Value} (hp : partvs l ps = some vs) (hz : zeroCs P T = some zs) (ht : arrOf P T = some (n, E, size)) (hf : FillS size vs zs t) :
    Ev P ⟨d, .build T ps.toArray, U, pos, af, g⟩ l F H (.agg t.toArray) := .of fun ρ hρ w _ => by
  obtain ⟨i', zv, hi', hz', hc⟩ := zeroCs_info hz
  obtain ⟨hu, j, hj, hjs⟩ := arrOf_info ht
  have hpv := partvs_eq hρ hp
  have e2 : ps.toArray.map (fun (p : Nat × Operand) => (p.1, ρ p.2)) = vs.toArray := by rw [← hpv]; simp
  refine run_v (s := Instr.build T _) ?_
  rw [e2]
  have hrun := fillS_run hf
  unfold Instr.build
  simp [zeroValue, typeInfo, hi', hz', run_underlying hu, sizeOf, hj, hjs, hc, hrun, run_typeInfo hi', run_typeInfo hj]
end
theorem Cells.one {F : PH} {b off : Nat} {cs : List Value} {v : Value} (h : Cells F b off cs) (i : Nat) (hi : cs[i]? = some v) : Cells F b (off + i) [v] := fun j u e => by
  cases j with
  | zero => simp only [List.getElem?_cons_zero, Option.some.injEq] at e; subst e; exact h i v hi
  | succ j => simp at e
end Go.Proofs.YtjjjckmpkldgnaaGreatDoor
namespace Go.Proofs.YtjjjckmpkldgnaaGreatDoor.Rk
open Go.RowKit
set_option maxRecDepth 100000
section
variable {a : Act} {F : PH} {φ : Vl} {l : Env} {h : Hp} {nx : Nat} {w : World} {d : Option Nat} {T T' U E : TypeId} {pos : String} {af : Array Edge} {g : Option (Nat × Bool)} {x y z : Operand}
/-! cuts -/
/-- A bound. -/
def BD (v : Option Value) (o : Option Nat) : Prop := match o with
  | none => v = none
  | some j => ∃ k, v = some (.int k (j : Int))
theorem bd_ok {x : Option Operand} {o : Option AV} {b : Option Nat} (hx : ∀ y, OpOk F φ l a.eval y) (h1 : evo x l = some o) (h2 : natO o = some b) : BD (x.map a.eval) b := by
  cases x with
  | none => cases h1; cases h2; rfl
  | some x =>
    unfold evo at h1
    dsimp only at h1
    cases he : ev x l with
    | none => rw [he] at h1; cases h1
    | some v =>
      rw [he] at h1; cases h1
      unfold natO at h2
      dsimp only at h2
      cases hn : natOf v with
      | none => rw [hn] at h2; cases h2
      | some j =>
        rw [hn] at h2; cases h2
        obtain ⟨k, e⟩ := natOf_ok hn (hx x v he)
        exact ⟨k, by rw [Option.map_some, e]⟩
theorem ble3_ok {p q r s : Nat} (h : ble3 p q r s = true) : p ≤ q ∧ q ≤ r ∧ r ≤ s := by
  unfold ble3 at h
  split at h
  · rename_i h1
    split at h
    · rename_i h2
      exact ⟨Nat.le_of_ble_eq_true h1, Nat.le_of_ble_eq_true h2, Nat.le_of_ble_eq_true h⟩
    · cases h
  · cases h
theorem bound_ok {k : IntKind} {j y : Nat} (c : BoundsCode) (hj : j ≤ y) (w : World) : (Instr.sliceBound (.int k (j : Int)) y c).run P w = .ok j w := by
  have h1 : (j : Int) ≤ (y : Int) := by omega
  simp [Instr.sliceBound, asIntOf, h1, hj]
theorem bounds_ok {b : Bool} {n c : Nat} {lo' hi' mx' : Option Value} {lo hi mx : Option Nat} (h1 : BD lo' lo) (h2 : BD hi' hi) (h3 : BD mx' mx) (hm : mxOk mx hi = true) (l1 : lo.getD 0 ≤ hi.getD n) (l2 : hi.getD n ≤ mx.getD c ∨ hi = none) (l3 : mx.getD c ≤ c) (w : World) :
    (Instr.sliceBounds b n c lo' hi' mx').run P w = .ok (lo.getD 0, hi.getD n, mx.getD c) w := by
  unfold Instr.sliceBounds
  cases mx with
  | none =>
    have e3 : mx' = none := h3
    subst e3
    cases hi with
    | none =>
      have e2 : hi' = none := h2
      subst e2
      cases lo with
      | none => have e1 : lo' = none := h1; subst e1; rfl
      | some j =>
        obtain ⟨k, rfl⟩ := h1
        simp [bound_ok _ (show j ≤ n from l1)]
    | some q =>
      obtain ⟨k2, rfl⟩ := h2
      have l2 : q ≤ c := by rcases l2 with e | e; exact e; cases e
      cases lo with
      | none => have e1 : lo' = none := h1; subst e1; simp [bound_ok _ l2]
      | some j =>
        obtain ⟨k, rfl⟩ := h1
        simp [bound_ok _ l2, bound_ok _ (show j ≤ q from l1)]
  | some m =>
    obtain ⟨k3, rfl⟩ := h3
    have l3 : m ≤ c := l3
    cases hi with
    | none => cases hm
    | some q =>
      obtain ⟨k2, rfl⟩ := h2
      have l2 : q ≤ m := by rcases l2 with e | e; exact e; cases e
      cases lo with
      | none => have e1 : lo' = none := h1; subst e1; simp [bound_ok _ l2, bound_ok _ l3]
      | some j =>
        obtain ⟨k, rfl⟩ := h1
        simp [bound_ok _ l2, bound_ok _ l3, bound_ok _ (show j ≤ q from l1)]
theorem str_cut {n s lo hi : Nat} (h1 : lo ≤ hi) (h2 : hi ≤ n) : (strOf (unp n s)).extract lo hi = strOf (unp (hi - lo) (s / 256 ^ (n - hi) % 256 ^ (hi - lo))) := by
  rw [unp_mod, show n - hi = n - lo - (hi - lo) from by omega, ← unp_sub (m := n) (off := lo) (n := hi - lo) (by omega)]
  apply ByteArray.ext
  apply Array.ext'
  simp [strOf, List.extract]
end
section
variable {a : Act} {F : PH} {φ : Vl} {l : Env} {h : Hp} {nx : Nat} {w : World} {d : Option Nat} {T T' U E : TypeId} {pos : String} {af : Array Edge} {g : Option (Nat × Bool)} {x y z : Operand}
theorem cut_addr {m q b off n : Nat} : (if m = q then (⟨b, off, none⟩ : Addr) else ⟨b, n, none⟩) = ⟨b, (match Nat.beq m q with | true => off | false => n), none⟩ := by
  by_cases e : m = q
  · rw [if_pos e, e, Nat.beq_refl]
  · rw [if_neg e]
    cases hb : Nat.beq m q with
    | true => exact absurd (Nat.eq_of_beq_eq_true hb) e
    | false => rfl
theorem slice_ok {lo hi mx : Option Operand} (hx : ∀ y, OpOk F φ l a.eval y) (r : HR F φ h w) : SROk ⟨d, .slice T x lo hi mx, U, pos, af, g⟩ a.eval F φ h nx w (sSlice T x lo hi mx l h nx) := by
  refine on1_ok (hx x) fun v hv => ?_
  split
  · rename_i lo1 hi1 mx1 k1 k2 k3
    unfold oSlice
    split
    · trivial
    · rename_i lo2 j1
      split
      · trivial
      · rename_i hi2 j2
        split
        · trivial
        · rename_i mx2 j3
          split
          · rename_i hm
            have b1 := bd_ok hx k1 j1
            have b2 := bd_ok hx k2 j2
            have b3 := bd_ok hx k3 j3
            have fin : ∀ {u v : Value} {q : AV}, a.eval x = u → (Instr.sliceAt T u (lo.map a.eval) (hi.map a.eval) (mx.map a.eval)).run P w = .ok v w → AvD F φ q v → SROk ⟨d, .slice T x lo hi mx, U, pos, af, g⟩ a.eval F φ h nx w (.v q) := fun {u v q} e hr hq => by
              refine OpM.val (u := v) (run_v (s := Instr.sliceAt T (a.eval x) (lo.map a.eval) (hi.map a.eval) (mx.map a.eval)) ?_) hq r
              rw [e]
              exact hr
            unfold sliceS
            split
            · rename_i n s
              obtain ⟨hs, e⟩ := hv
              have hsz : (strOf (unp n s)).size = n := by show (unp n s).toArray.size = n; simp [unp_len]
              split
              · rename_i hu
                split
                · unfold sliceStr
                  split
                  · rename_i hb
                    obtain ⟨l1, l2, l3⟩ := ble3_ok hb
                    refine fin (v := .string ((strOf (unp n s)).extract (lo2.getD 0) (hi2.getD n))) e ?_ ⟨Nat.mod_lt _ (Nat.pow_pos (by decide)), by rw [str_cut l1 l2]⟩
                    have e3 : mx.map a.eval = none := b3
                    rw [e3]
                    have hb := bounds_ok (b := false) (n := n) (c := n) b1 b2 (show BD none none from rfl) rfl l1 (.inl l2) (Nat.le_refl n) w
                    unfold Instr.sliceAt
                    simp [run_underlying (undT_ok hu), Instr.slice, hsz, hb]
                  · trivial
                · trivial
              · trivial
            · have e : a.eval x = .slice none 0 0 := hv
              split
              · rename_i q ht
                obtain ⟨E, sz⟩ := q
                obtain ⟨hu, i, hj, hs⟩ := elemSize_info (tel_ok ht)
                split
                · rename_i g1 g2 g3
                  refine fin (v := .slice none 0 0) e ?_ rfl
                  have hb := bounds_ok (b := true) (n := 0) (c := 0) b1 b2 b3 hm (by rw [g1, g2]; exact Nat.le_refl _) (.inl (by rw [g2, g3]; exact Nat.le_refl _)) (by rw [g3]; exact Nat.le_refl _) w
                  rw [g1, g2, g3] at hb
                  unfold Instr.sliceAt
                  simp [run_underlying hu, Instr.slice, hb, run_sizeOf hj]
                · trivial
              · trivial
            · rename_i id off
              obtain ⟨b, κ, hid, e⟩ := hv
              split
              · rename_i n E sz ht
                obtain ⟨hu, i, hj, hs⟩ := arrOf_info (tarr_ok ht)
                unfold sliceArr
                split
                · rename_i hb
                  obtain ⟨l1, l2, l3⟩ := ble3_ok hb
                  have hb := bounds_ok (b := false) (n := n) (c := n) b1 b2 b3 hm l1 (.inl l2) l3 w
                  refine fin (v := .slice (some (if mx2.getD n = lo2.getD 0 then ⟨b, off, none⟩ else ⟨b, off + lo2.getD 0 * sz, none⟩)) (hi2.getD n - lo2.getD 0) (mx2.getD n - lo2.getD 0)) e ?_ ?_
                  · unfold Instr.sliceAt
                    simp [run_underlying hu, Instr.sureAddr, hb, run_sizeOf hj, hs, adr_add]
                  · refine ⟨b, κ, hid, by show _ ≤ mx2.getD n - lo2.getD 0; omega, ?_⟩
                    rw [cut_addr]; rfl
                · trivial
              · trivial
            · rename_i id off n c
              obtain ⟨b, κ, hid, hc, e⟩ := hv
              split
              · rename_i E sz ht
                obtain ⟨hu, i, hj, hs⟩ := elemSize_info (tel_ok ht)
                have key : ∀ {cp : Nat}, (CA.cap κ c = cp) → lo2.getD 0 ≤ hi2.getD n → (hi2.getD n ≤ mx2.getD cp ∨ hi2 = none) → mx2.getD cp ≤ cp → (Instr.sliceAt T (.slice (some ⟨b, off, none⟩) n (CA.cap κ c)) (lo.map a.eval) (hi.map a.eval) (mx.map a.eval)).run P w = .ok (.slice (some (if mx2.getD cp = lo2.getD 0 then ⟨b, off, none⟩ else ⟨b, off + lo2.getD 0 * sz, none⟩)) (hi2.getD n - lo2.getD 0) (mx2.getD cp - lo2.getD 0)) w := fun {cp} ec l1 l2 l3 => by
                  have hb := bounds_ok (b := true) (n := n) (c := cp) b1 b2 b3 hm l1 l2 l3 w
                  rw [ec]
                  unfold Instr.sliceAt
                  simp [run_underlying hu, Instr.slice, hb, run_sizeOf hj, hs, adr_add]
                  split <;> simp_all [adr_add]
                split
                · rename_i cap
                  split
                  · rename_i hb
                    obtain ⟨l1, l2, l3⟩ := ble3_ok hb
                    refine fin e (key rfl l1 (.inl l2) l3) ?_
                    refine ⟨b, κ, hid, by show _ ≤ mx2.getD cap - lo2.getD 0; omega, ?_⟩
                    rw [cut_addr]; rfl
                  · trivial
                · rename_i dd
                  have hc : n ≤ κ - dd := hc
                  unfold sliceT
                  split
                  · rename_i m
                    split
                    · rename_i hb
                      obtain ⟨l1, l2, l3⟩ := ble3_ok hb
                      refine fin e (key (cp := κ - dd) rfl l1 (.inl l2) (by show m ≤ κ - dd; omega)) ?_
                      refine ⟨b, κ, hid, by show _ ≤ m - lo2.getD 0; omega, ?_⟩
                      rw [cut_addr]; rfl
                    · trivial
                  · split
                    · rename_i h0
                      split
                      · rename_i hb
                        have hb := Nat.le_of_ble_eq_true hb
                        have hr := key (cp := κ - dd) rfl (by rw [h0]; exact Nat.zero_le _) (.inl (by show hi2.getD n ≤ κ - dd; omega)) (Nat.le_refl _)
                        refine fin e hr ⟨b, κ, hid, by show hi2.getD n ≤ κ - dd; omega, ?_⟩
                        rw [h0]
                        simp
                        rfl
                      · trivial
                    · rename_i lo3 h0
                      split
                      · rename_i hb
                        rw [Bool.and_eq_true] at hb
                        obtain ⟨l1, l2, l3⟩ := ble3_ok hb.1
                        have l4 : lo3 + 1 < n := Nat.le_of_ble_eq_true hb.2
                        have hr := key (cp := κ - dd) rfl (by rw [h0]; exact l1) (.inl (by show hi2.getD n ≤ κ - dd; omega)) (Nat.le_refl _)
                        refine fin e hr ⟨b, κ, hid, by show _ ≤ κ - (dd + (lo3 + 1)); omega, ?_⟩
                        rw [h0, if_neg (by show ¬ κ - dd = lo3 + 1; omega)]
                        show Value.slice _ _ (κ - dd - (lo3 + 1)) = .slice _ _ (κ - (dd + (lo3 + 1)))
                        rw [Nat.sub_sub]
                      · trivial
              · trivial
            · trivial
          · trivial
  · trivial
end
end Go.Proofs.YtjjjckmpkldgnaaGreatDoor.Rk
namespace Go.Proofs.YtjjjckmpkldgnaaGreatDoor.Rk
open Go.RowKit
set_option maxRecDepth 100000
section
variable {F : PH} {φ : Vl}
theorem cells_vc {v : AV} {u : Value} {xs : List SV} (hc : cellsOf v = some xs) (hv : AvD F φ v u) : ∃ us, VC u us ∧ All2 (SvD F φ) xs us := by
  unfold cellsOf at hc
  split at hc
  · cases hc; exact ⟨[u], SvD.vc hv, .cons hv .nil⟩
  · cases hc
    obtain ⟨us, h, rfl⟩ := hv
    exact ⟨us, .agg, h⟩
  · cases hc
theorem lover_lay : ∀ {vs cs cs' : List SV} {us ts : List Value}, lover vs cs = some cs' → All2 (SvD F φ) vs us → All2 (SvD F φ) cs ts → ∃ ts', Lay 0 us ts ts' ∧ All2 (SvD F φ) cs' ts'
  | [], cs, cs', us, ts, h, hv, hc => by cases h; cases hv; exact ⟨ts, .nil, hc⟩
  | v :: vs, [], cs', us, ts, h, hv, hc => by cases h
  | v :: vs, c :: cs, cs', us, ts, h, hv, hc => by
    cases hv with
    | cons v1 v2 =>
    cases hc with
    | cons c1 c2 =>
    unfold lover at h
    dsimp only at h
    cases hl : lover vs cs with
    | none => rw [hl] at h; cases h
    | some q =>
      rw [hl] at h; cases h
      obtain ⟨ts', l1, l2⟩ := lover_lay hl v2 c2
      exact ⟨_, .put l1, .cons v1 l2⟩
theorem lput_lay {vs : List SV} {us : List Value} (hv : All2 (SvD F φ) vs us) : ∀ {n : Nat} {cs cs' : List SV} {ts : List Value}, lput vs n cs = some cs' → All2 (SvD F φ) cs ts → ∃ ts', Lay n us ts ts' ∧ All2 (SvD F φ) cs' ts'
  | 0, cs, cs', ts, h, hc => lover_lay h hv hc
  | n + 1, [], cs', ts, h, hc => by cases h
  | n + 1, c :: cs, cs', ts, h, hc => by
    cases hc with
    | cons c1 c2 =>
    unfold lput at h
    dsimp only at h
    cases hl : lput vs n cs with
    | none => rw [hl] at h; cases h
    | some q =>
      rw [hl] at h; cases h
      obtain ⟨ts', l1, l2⟩ := lput_lay hv hl c2
      exact ⟨_, .skip l1, .cons c1 l2⟩
/-- The parts of a literal. -/
def PtD (F : PH) (φ : Vl) (p : Nat × AV) (q : Nat × Value) : Prop := p.1 = q.1 ∧ AvD F φ p.2 q.2
theorem evp_ok {a : Act} {l : Env} (hx : ∀ y, OpOk F φ l a.eval y) : ∀ {ps : List (Nat × Operand)} {qs : List (Nat × AV)}, evp ps l = some qs → All2 (PtD F φ) qs (ps.map fun p => (p.1, a.eval p.2))
  | [], qs, h => by cases h; exact .nil
  | (i, x) :: ps, qs, h => by
    unfold evp at h
    obtain ⟨v, hv, h1⟩ := oget_some h
    obtain ⟨vs, hvs, h2⟩ := oget_some h1
    cases h2
    exact .cons ⟨rfl, hx x v hv⟩ (evp_ok hx hvs)
theorem partvs_for (a : Act) (xs : List Operand) : ∀ (ps : List (Nat × Operand)), (∀ p ∈ ps, p.2 ∈ xs) → partvs (envFor a xs) ps = some (ps.map fun p => (p.1, a.eval p.2))
  | [], _ => rfl
  | (i, x) :: ps, hm => by
    unfold partvs
    rw [opv_for a (hm _ (List.mem_cons_self ..))]
    dsimp only
    rw [partvs_for a xs ps (fun p hp => hm p (List.mem_cons_of_mem _ hp))]
    rfl
theorem fill1_ok {vs cs cs' : List SV} {p : Nat × Nat} (h : fill1 vs cs p = some cs') : vs.length = p.2 ∧ lput vs p.1 cs = some cs' := by
  unfold fill1 at h
  split at h
  · rename_i e; exact ⟨Nat.eq_of_beq_eq_true e, h⟩
  · cases h
theorem fillS_ok {sz : Nat} : ∀ {ps : List (Nat × AV)} {qs : List (Nat × Value)} {cs cs' : List SV} {ts : List Value}, fillAt (fun i => some (i * sz, sz)) ps cs = some cs' → All2 (PtD F φ) ps qs → All2 (SvD F φ) cs ts → ∃ ts', FillS sz qs ts ts' ∧ All2 (SvD F φ) cs' ts'
  | [], qs, cs, cs', ts, h, hp, hc => by cases h; cases hp; exact ⟨ts, .nil, hc⟩
  | (i, v) :: ps, qs, cs, cs', ts, h, hp, hc => by
    cases hp with
    | @cons _ q _ qs' p1 p2 =>
    obtain ⟨j, u⟩ := q
    obtain ⟨e, hu⟩ := p1
    have e : i = j := e
    subst e
    unfold fillAt at h
    obtain ⟨p, hpl, h1⟩ := oget_some h
    cases hpl
    obtain ⟨vs, hvs, h2⟩ := oget_some h1
    obtain ⟨cs1, hc1, h3⟩ := oget_some h2
    obtain ⟨hl, hput⟩ := fill1_ok hc1
    obtain ⟨us, hvc, hus⟩ := cells_vc hvs hu
    obtain ⟨ts1, l1, l2⟩ := lput_lay hus hput hc
    obtain ⟨ts2, f1, f2⟩ := fillS_ok h3 p2 l2
    exact ⟨ts2, .cons hvc (by rw [← hus.len, hl]) l1 f1, f2⟩
theorem fillF_ok {T : TypeId} {pl : List (Nat × Nat)} (hpl : ∀ i p, tplace T i = some p → pl[i]? = some p) : ∀ {ps : List (Nat × AV)} {qs : List (Nat × Value)} {cs cs' : List SV} {ts : List Value}, fillAt (tplace T) ps cs = some cs' → All2 (PtD F φ) ps qs → All2 (SvD F φ) cs ts → ∃ ts', FillF pl qs ts ts' ∧ All2 (SvD F φ) cs' ts'
  | [], qs, cs, cs', ts, h, hp, hc => by cases h; cases hp; exact ⟨ts, .nil, hc⟩
  | (i, v) :: ps, qs, cs, cs', ts, h, hp, hc => by
    cases hp with
    | @cons _ q _ qs' p1 p2 =>
    obtain ⟨j, u⟩ := q
    obtain ⟨e, hu⟩ := p1
    have e : i = j := e
    subst e
    unfold fillAt at h
    obtain ⟨p, hpp, h1⟩ := oget_some h
    obtain ⟨vs, hvs, h2⟩ := oget_some h1
    obtain ⟨cs1, hc1, h3⟩ := oget_some h2
    obtain ⟨hl, hput⟩ := fill1_ok hc1
    obtain ⟨us, hvc, hus⟩ := cells_vc hvs hu
    obtain ⟨ts1, l1, l2⟩ := lput_lay hus hput hc
    obtain ⟨ts2, f1, f2⟩ := fillF_ok hpl h3 p2 l2
    exact ⟨ts2, .cons hvc (hpl i p hpp) (by rw [← hus.len, hl]) l1 f1, f2⟩
end
/-! every struct's fields are types of the table -/
noncomputable def fldOk (i : TypeInfo) : Bool := match i.desc with
  | .struct fs => fs.toList.all fun f => (infoT f.type).isSome
  | _ => true
theorem flds_all : P.types.toList.all fldOk = true := by decide +kernel
theorem mapM_some {α β : Type} {f : α → Option β} : ∀ {l : List α}, (∀ a ∈ l, (f a).isSome = true) → ∃ m : List β, l.mapM f = some m ∧ ∀ (i : Nat) (a : α), l[i]? = some a → m[i]? = f a
  | [], _ => ⟨[], rfl, fun i a e => by simp at e⟩
  | a :: r, h => by
    obtain ⟨m, hm, hg⟩ := mapM_some (l := r) fun b hb => h b (List.mem_cons_of_mem _ hb)
    obtain ⟨x, hx⟩ := Option.isSome_iff_exists.1 (h a (List.mem_cons_self ..))
    refine ⟨x :: m, by rw [List.mapM_cons, hx, hm]; rfl, fun i b e => ?_⟩
    cases i with
    | zero => cases e; exact hx.symm
    | succ i => exact hg i b e
section
variable {a : Act} {F : PH} {φ : Vl} {l : Env} {h : Hp} {nx : Nat} {w : World} {d : Option Nat} {T T' U E : TypeId} {pos : String} {af : Array Edge} {g : Option (Nat × Bool)} {x y z : Operand}
theorem infoT_mem {T : TypeId} {i : TypeInfo} (h : infoT T = some i) : i ∈ P.types.toList := List.mem_of_getElem? (ofList_get _ _ _ _ h)
theorem undT_flds {fs : Array Field} (h : undT T = some (.struct fs)) : ∀ f ∈ fs.toList, (infoT f.type).isSome = true := by
  have key : ∀ {T : TypeId} {i : TypeInfo}, infoT T = some i → i.desc = .struct fs → ∀ f ∈ fs.toList, (infoT f.type).isSome = true := fun {T i} h e f hf => by
    have h1 := List.all_eq_true.1 flds_all _ (infoT_mem h)
    unfold fldOk at h1
    rw [e] at h1
    exact List.all_eq_true.1 h1 f hf
  unfold undT at h
  cases hi : infoT T with
  | none => rw [hi] at h; cases h
  | some i =>
    rw [hi] at h
    dsimp only at h
    split at h
    · rename_i nm u hd
      cases hu : infoT u with
      | none => rw [hu] at h; cases h
      | some j => rw [hu] at h; exact key hu (Option.some.inj h)
    · exact key hi (Option.some.inj h)
theorem build_ok {ps : Array (Nat × Operand)} (hx : ∀ y, OpOk F φ l a.eval y) (r : HR F φ h w) : SROk ⟨d, .build T ps, U, pos, af, g⟩ a.eval F φ h nx w (sBuild T ps l h nx) := by
  unfold sBuild
  split
  · rename_i qs hq
    have hp := evp_ok hx hq
    have hv := partvs_for a (ps.toList.map (·.2)) ps.toList (fun p hp => List.mem_map_of_mem hp)
    unfold oBuild
    split
    · rename_i n E sz ht
      refine srv_ok fun q hq => ?_
      cases hz : oget (tzero T) fun z => (fillAt (fun i => some (i * sz, sz)) qs z).map AV.agg with
      | none => rw [hz] at hq; cases hq
      | some q' =>
        rw [hz] at hq; cases hq
        obtain ⟨z, hz1, hz2⟩ := oget_some hz
        cases hf : fillAt (fun i => some (i * sz, sz)) qs z with
        | none => rw [hf] at hz2; cases hz2
        | some cs =>
          rw [hf] at hz2; cases hz2
          obtain ⟨zs, e1, e2⟩ := tzero_ok (F := F) (φ := φ) hz1
          obtain ⟨ts, f1, f2⟩ := fillS_ok hf hp e2
          refine OpM.val (u := .agg ts.toArray) ?_ ⟨ts, f2, rfl⟩ r
          have := evA (a := a) (o := ⟨d, .build T ps.toList.toArray, U, pos, af, g⟩) (w := w) (ev_build_arr hv e1 (tarr_ok ht) f1)
          rwa [Array.toArray_toList] at this
    · split
      · rename_i fs hu
        refine srv_ok fun q hq => ?_
        cases hz : oget (tzero T) fun z => (fillAt (tplace T) qs z).map AV.agg with
        | none => rw [hz] at hq; cases hq
        | some q' =>
          rw [hz] at hq; cases hq
          obtain ⟨z, hz1, hz2⟩ := oget_some hz
          cases hf : fillAt (tplace T) qs z with
          | none => rw [hf] at hz2; cases hz2
          | some cs =>
            rw [hf] at hz2; cases hz2
            obtain ⟨zs, e1, e2⟩ := tzero_ok (F := F) (φ := φ) hz1
            obtain ⟨pl, hpl, hg⟩ := mapM_some (f := fun (f : Field) => (P.info? f.type).map fun i => (f.offset, i.size)) (l := fs.toList) fun f hf => by
              obtain ⟨i, hi⟩ := Option.isSome_iff_exists.1 (undT_flds hu f hf)
              rw [infoT_ok hi]; rfl
            have hpo : placesOf P T = some pl := by unfold placesOf; rw [undT_ok hu]; exact hpl
            obtain ⟨ts, f1, f2⟩ := fillF_ok (T := T) (pl := pl) (fun i p e => by
              unfold tplace at e
              obtain ⟨⟨off, ft⟩, e3, e4⟩ := oget_some e
              obtain ⟨fs', f, k1, k2, rfl, rfl⟩ := tfld_ok e3
              rw [undT_ok hu] at k1
              cases k1
              rw [hg i f (by rw [Array.getElem?_toList]; exact k2)]
              dsimp only at e4
              cases hs : tsz f.type with
              | none => rw [hs] at e4; cases e4
              | some n =>
                rw [hs] at e4; cases e4
                obtain ⟨j, hj, rfl⟩ := tsz_ok hs
                rw [hj]; rfl) hf hp e2
            refine OpM.val (u := .agg ts.toArray) ?_ ⟨ts, f2, rfl⟩ r
            have := evA (a := a) (o := ⟨d, .build T ps.toList.toArray, U, pos, af, g⟩) (w := w) (ev_build hv e1 hpo f1)
            rwa [Array.toArray_toList] at this
      · trivial
  · trivial
/-! functions and interfaces made -/
theorem pv_ok {v : AV} {p : PV} {u : Value} (h : pvOf v = some p) (hv : AvD F φ v u) : PvD φ p u := by
  unfold pvOf at h
  split at h
  · cases h; exact hv
  · cases h; exact hv
  · cases h
theorem pvs_ok : ∀ {vs : List AV} {ps : List PV} {us : List Value}, pvsOf vs = some ps → All2 (AvD F φ) vs us → All2 (PvD φ) ps us
  | [], ps, us, h, hv => by cases h; cases hv; exact .nil
  | v :: vs, ps, us, h, hv => by
    cases hv with
    | cons v1 v2 =>
    unfold pvsOf at h
    obtain ⟨p, hp, h1⟩ := oget_some h
    obtain ⟨q, hq, h2⟩ := oget_some h1
    cases h2
    exact .cons (pv_ok hp v1) (pvs_ok hq v2)
theorem evs_ok (hx : ∀ y, OpOk F φ l a.eval y) : ∀ {xs : List Operand} {vs : List AV}, evs xs l = some vs → All2 (AvD F φ) vs (xs.map a.eval)
  | [], vs, h => by cases h; exact .nil
  | x :: xs, vs, h => by
    unfold evs at h
    obtain ⟨v, hv, h1⟩ := oget_some h
    obtain ⟨q, hq, h2⟩ := oget_some h1
    cases h2
    exact .cons (hx x v hv) (evs_ok hx hq)
theorem makeFunc_ok {f : Fn} {ps qs : Array Operand} (hx : ∀ y, OpOk F φ l a.eval y) (r : HR F φ h w) : SROk ⟨d, .makeFunc f ps qs, U, pos, af, g⟩ a.eval F φ h nx w (sMakeFunc f ps qs l h nx) := by
  unfold sMakeFunc
  split
  · rename_i vs us hv hu
    unfold oMakeFunc
    split
    · rename_i p q hp hq
      have h1 := pvs_ok hp (evs_ok hx hv)
      have h2 := pvs_ok hq (evs_ok hx hu)
      split
      · trivial
      rename_i hf
      refine OpM.val (u := .func f (ps.map a.eval) (qs.map a.eval)) rfl ?_ r
      refine ⟨f, ps.toList.map a.eval, qs.toList.map a.eval, ?_, h1, h2, ?_⟩
      · cases f <;> first | rfl | exact absurd rfl (hf _)
      · rw [← Array.toList_map, ← Array.toList_map, Array.toArray_toList, Array.toArray_toList]
    · trivial
  · trivial
theorem makeIface_ok (hx : OpOk F φ l a.eval x) (r : HR F φ h w) : SROk ⟨d, .makeInterface T x, U, pos, af, g⟩ a.eval F φ h nx w (sMakeIface T x l h nx) := by
  refine on1_ok hx fun v hv => ?_
  unfold oMakeIface
  split
  · rename_i id off
    split
    · rename_i t hu
      obtain ⟨b, κ, hb, e⟩ := hv
      refine OpM.val (evA (xs := [x]) (ev_makeInterface (opv_for a (by simp)) (by unfold ifcB; rw [undT_ok hu]))) ⟨b, κ, hb, by rw [e]⟩ r
    · trivial
  · trivial
theorem tmeth_ok {t : TypeId} {name : String} {f : FuncId} (h : tmeth t name = some f) : ∃ i m p tm, P.info? t = some i ∧ i.methods.find? (·.name == name) = some m ∧ m.path.isEmpty = true ∧ m.func = some (f, true) ∧ P.underlying t = some (.pointer p) ∧ tm = m := by
  unfold tmeth at h
  obtain ⟨i, hi, h1⟩ := oget_some h
  obtain ⟨m, hm, h2⟩ := oget_some h1
  split at h2
  · rename_i f' p e1 e2 e3
    cases h2
    exact ⟨i, m, _, m, infoT_ok hi, hm, e1, e2, undT_ok e3, rfl⟩
  · cases h2
theorem nilCheck_ok (hx : OpOk F φ l a.eval x) (r : HR F φ h w) : SROk ⟨d, .nilCheck x, U, pos, af, g⟩ a.eval F φ h nx w (sNilCheck x l h nx) := by
  refine on1_ok hx fun v hv => ?_
  split
  · have hv' := hv
    obtain ⟨b, κ, hb, e⟩ := hv
    refine OpM.val (u := a.eval x) ?_ hv' r
    rw [e]
    unfold execOp
    simp only [e]
    rfl
  · have hv' := hv
    obtain ⟨b, κ, hb, e⟩ := hv
    refine OpM.val (u := a.eval x) ?_ hv' r
    rw [e]
    unfold execOp
    simp only [e]
    rfl
  · have hv' := hv
    obtain ⟨f, us, vs, hf, _, _, e⟩ := hv
    have hf : f = .func _ := hf
    subst hf
    refine OpM.val (u := a.eval x) ?_ hv' r
    rw [e]
    unfold execOp
    simp only [e]
    rfl
  · split
    · rename_i name t id off cap _ f hm
      have hv' := hv
      obtain ⟨f', us, vs, hf, h1, h2, e⟩ := hv
      have hf : f' = .method name := hf
      subst hf
      cases h1 with
      | @cons _ u _ us' p1 p2 =>
      cases p2
      obtain ⟨b, κ, hb, rfl⟩ := p1
      obtain ⟨i, m, p, _, k1, k2, k3, k4, k5, _⟩ := tmeth_ok hm
      refine OpM.val (u := a.eval x) ?_ hv' r
      have hn : (nilAhead (P.types.size + 100) t (.pointer (some ⟨b, off, none⟩)) name).run P w = .ok (some false) w := by
        have hp : m.path = #[] := by simpa using k3
        show (nilAhead ((P.types.size + 99) + 1) t _ name).run P w = _
        unfold nilAhead
        simp [run_typeInfo k1, k2, hp, followBlind, k4, go_sem]
      rw [e]
      unfold execOp
      simp only [e]
      simp [go_sem]
      rw [hn]
      simp [Result.andThen]
    · trivial
  · trivial
end
end Go.Proofs.YtjjjckmpkldgnaaGreatDoor.Rk
