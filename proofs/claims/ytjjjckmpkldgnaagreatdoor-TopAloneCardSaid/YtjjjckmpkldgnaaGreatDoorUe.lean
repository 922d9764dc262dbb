/-
  The reckoner's operations are the model's: comparisons, parts, plain values. Plain theorems; no condition.
-/
import Derived.Test.YtjjjckmpkldgnaaGreatDoorUd
namespace Go.Proofs.YtjjjckmpkldgnaaGreatDoor.Rk
open Go.RowKit
set_option maxRecDepth 100000
theorem unp_inj : ∀ (n x y : Nat), x < 256 ^ n → y < 256 ^ n → unp n x = unp n y → x = y
  | 0, x, y, hx, hy, _ => by simp at hx hy; omega
  | n + 1, x, y, hx, hy, h => by
    rw [unp_snoc, unp_snoc] at h
    have h1 := List.append_inj h (by rw [unp_len, unp_len])
    have hx' : x / 256 < 256 ^ n := by rw [Nat.div_lt_iff_lt_mul (by decide)]; rw [Nat.pow_succ] at hx; exact hx
    have hy' : y / 256 < 256 ^ n := by rw [Nat.div_lt_iff_lt_mul (by decide)]; rw [Nat.pow_succ] at hy; exact hy
    have e1 := unp_inj n _ _ hx' hy' h1.1
    have e2 : UInt8.ofNat x = UInt8.ofNat y := by simpa using h1.2
    have e3 := congrArg UInt8.toNat e2
    rw [UInt8.toNat_ofNat', UInt8.toNat_ofNat'] at e3
    have : (2 : Nat) ^ 8 = 256 := rfl
    omega
theorem strOf_list (bs : List UInt8) : (strOf bs).toList = bs := by
  exact strOf_toList bs
theorem str_eq {n x m y : Nat} (hx : x < 256 ^ n) (hy : y < 256 ^ m) : decide ((strOf (unp n x)).toList = (strOf (unp m y)).toList) = (Nat.beq n m && Nat.beq x y) := by
  rw [strOf_list, strOf_list, Bool.eq_iff_iff]
  simp only [decide_eq_true_eq, Bool.and_eq_true, Nat.beq_eq]
  constructor
  · intro h
    have : n = m := by have := congrArg List.length h; rwa [unp_len, unp_len] at this
    subst this
    exact ⟨rfl, unp_inj _ _ _ hx hy h⟩
  · rintro ⟨rfl, rfl⟩; rfl
section
variable {a : Act} {F : PH} {φ : Vl} {l : Env} {h : Hp} {nx : Nat} {w : World} {d : Option Nat} {T T' U E : TypeId} {pos : String} {af : Array Edge} {g : Option (Nat × Bool)} {x y z : Operand}
theorem extract_ok {i : Nat} (hx : OpOk F φ l a.eval x) (r : HR F φ h w) : SROk ⟨d, .extract x i, U, pos, af, g⟩ a.eval F φ h nx w (sExtract x i l h nx) := by
  refine on1_ok hx fun v hv => ?_
  split
  · rename_i vs
    obtain ⟨us, hus, e⟩ := hv
    refine srv_ok fun q hq => ?_
    rw [lget_eq] at hq
    cases hg : vs[i]? with
    | none => rw [hg] at hq; cases hq
    | some t =>
      rw [hg] at hq
      cases hq
      obtain ⟨u, hu, ht⟩ := hus.get hg
      refine OpM.val (u := u) (evA (xs := [x]) (ev_pv ?_)) (by cases t <;> exact ht) r
      show (match opv (envFor a [x]) x with | some (.tuple vs) => vs[i]? | _ => none) = some u
      rw [opv_for a (by simp), e]
      simpa using hu
  · trivial
theorem un_ok {op : UnOp} (hx : OpOk F φ l a.eval x) (r : HR F φ h w) : SROk ⟨d, .unOp op T x, U, pos, af, g⟩ a.eval F φ h nx w (sUn op T x l h nx) := by
  refine on1_ok hx fun v hv => srv_ok fun q hq => ?_
  unfold unE at hq
  split at hq
  · split at hq
    · rename_i b
      cases hq
      have e : a.eval x = .bool b := hv
      refine OpM.val (u := .bool (!b)) (evA (xs := [x]) (ev_pv ?_)) rfl r
      show (match opv (envFor a [x]) x with | some (Value.bool b) => some (Value.bool (!b)) | _ => none) = some (Value.bool (!b))
      rw [opv_for a (by simp), e]
    · cases hq
  · cases hq
/-- What == and != come to. -/
def eqRes (op : BinOp) (e : Bool) : Option AV := match op with
  | .eql => some (AV.s (.bool e))
  | .neq => some (AV.s (.bool (!e)))
  | _ => none
/-- A comparison by the type. -/
theorem eqV {op : BinOp} {u v : Value} {e : Bool} {q : AV} (hq : eqRes op e = some q) (e1 : a.eval x = u) (e2 : a.eval y = v) (hg : ∀ op, (eqGuard op T x y u v).run P w = .ok () w)
    (h1 : binOp .eql T u v = (do pure (.bool (← Op.equal T u v)))) (h2 : binOp .neq T u v = (do pure (.bool (!(← Op.equal T u v))))) (hr : (Op.equal T u v).run P w = .ok e w) (r : HR F φ h w) :
    OpM ⟨d, .binOp op T x y T', U, pos, af, g⟩ a.eval F φ nx w q h nx := by
  cases op with
  | eql =>
    cases hq
    refine OpM.val (u := .bool e) ?_ rfl r
    refine run_v2 (A := eqGuard .eql T x y (a.eval x) (a.eval y)) (s := binOp .eql T (a.eval x) (a.eval y)) (by rw [e1, e2]; exact hg _) ?_
    rw [e1, e2, h1]
    simp [hr]
  | neq =>
    cases hq
    refine OpM.val (u := .bool (!e)) ?_ rfl r
    refine run_v2 (A := eqGuard .neq T x y (a.eval x) (a.eval y)) (s := binOp .neq T (a.eval x) (a.eval y)) (by rw [e1, e2]; exact hg _) ?_
    rw [e1, e2, h2]
    simp [hr]
  | _ => cases hq
theorem kind1 (h : kindT T = 1) : P.underlying T = some TypeDesc.bool := by
  unfold kindT at h
  split at h
  · rename_i hu; exact undT_ok hu
  all_goals cases h
theorem kind2 (h : kindT T = 2) : ∃ t, P.underlying T = some (TypeDesc.pointer t) := by
  unfold kindT at h
  split at h
  · cases h
  · rename_i hu; exact ⟨_, undT_ok hu⟩
  all_goals cases h
theorem kind3 (h : kindT T = 3) : ∃ t, P.underlying T = some (TypeDesc.slice t) := by
  unfold kindT at h
  split at h
  · cases h
  · cases h
  · rename_i hu; exact ⟨_, undT_ok hu⟩
  all_goals cases h
theorem kind4 (h : kindT T = 4) : ∃ a b c, P.underlying T = some (TypeDesc.func a b c) := by
  unfold kindT at h
  split at h
  · cases h
  · cases h
  · cases h
  · rename_i hu; exact ⟨_, _, _, undT_ok hu⟩
  all_goals cases h
theorem kind5 (h : kindT T = 5) : ∃ ms, P.underlying T = some (TypeDesc.interface ms) := by
  unfold kindT at h
  split at h
  · cases h
  · cases h
  · cases h
  · cases h
  · rename_i hu; exact ⟨_, undT_ok hu⟩
  · cases h
theorem ifK_ok {k n : Nat} {b e : Bool} (h : ifK k n b = some e) : k = n ∧ e = b := by
  unfold ifK at h
  split at h
  · rename_i hk; cases h; exact ⟨Nat.eq_of_beq_eq_true hk, rfl⟩
  · cases h
theorem nil_eq {op : BinOp} {s t : SV} {u v : Value} {e : Bool} {q : AV} (hn : isNil (kindT T) (Region.isConst y) s t = some e) (hu : SvD F φ s u) (hv : SvD F φ t v) (hq : eqRes op e = some q) (e1 : a.eval x = u) (e2 : a.eval y = v) (r : HR F φ h w) :
    OpM ⟨d, .binOp op T x y T', U, pos, af, g⟩ a.eval F φ nx w q h nx := by
  unfold isNil at hn
  split at hn
  · obtain ⟨hk, rfl⟩ := ifK_ok hn
    obtain ⟨t, ht⟩ := kind2 hk
    obtain ⟨b, κ, _, rfl⟩ := hu
    have hv' : v = .pointer none := hv
    subst hv'
    exact eqV hq e1 e2 (fun op => by cases op <;> simp [eqGuard, go_sem]) rfl rfl (equal_of _ _ _ _ _ fun n => by simp [Op.equalIn, run_underlying ht]) r
  · obtain ⟨hk, rfl⟩ := ifK_ok hn
    obtain ⟨t, ht⟩ := kind2 hk
    have hu' : u = .pointer none := hu
    have hv' : v = .pointer none := hv
    subst hv' hu'
    exact eqV hq e1 e2 (fun op => by cases op <;> simp [eqGuard, go_sem]) rfl rfl (equal_of _ _ _ _ _ fun n => by simp [Op.equalIn, run_underlying ht]) r
  · obtain ⟨hk, rfl⟩ := ifK_ok hn
    obtain ⟨t, ht⟩ := kind3 hk
    obtain ⟨b, κ, _, _, rfl⟩ := hu
    have hv' : v = .slice none 0 0 := hv
    subst hv'
    exact eqV hq e1 e2 (fun op => by cases op <;> simp [eqGuard, go_sem]) rfl rfl (equal_of _ _ _ _ _ fun n => by simp [Op.equalIn, run_underlying ht]) r
  · obtain ⟨hk, rfl⟩ := ifK_ok hn
    obtain ⟨t, ht⟩ := kind3 hk
    have hu' : u = .slice none 0 0 := hu
    have hv' : v = .slice none 0 0 := hv
    subst hv' hu'
    exact eqV hq e1 e2 (fun op => by cases op <;> simp [eqGuard, go_sem]) rfl rfl (equal_of _ _ _ _ _ fun n => by simp [Op.equalIn, run_underlying ht]) r
  · obtain ⟨hk, rfl⟩ := ifK_ok hn
    obtain ⟨t1, t2, t3, ht⟩ := kind4 hk
    obtain ⟨g, us, vs, _, _, _, rfl⟩ := hu
    have hv' : v = .nilFunc := hv
    subst hv'
    exact eqV hq e1 e2 (fun op => by cases op <;> simp [eqGuard, go_sem]) rfl rfl (equal_of _ _ _ _ _ fun n => by simp [Op.equalIn, run_underlying ht]) r
  · obtain ⟨hk, rfl⟩ := ifK_ok hn
    obtain ⟨t1, t2, t3, ht⟩ := kind4 hk
    have hu' : u = .nilFunc := hu
    have hv' : v = .nilFunc := hv
    subst hv' hu'
    exact eqV hq e1 e2 (fun op => by cases op <;> simp [eqGuard, go_sem]) rfl rfl (equal_of _ _ _ _ _ fun n => by simp [Op.equalIn, run_underlying ht]) r
  · obtain ⟨hk, rfl⟩ := ifK_ok hn
    obtain ⟨ms, ht⟩ := kind5 hk
    obtain ⟨b, κ, _, rfl⟩ := hu
    have hv' : v = .nilIface := hv
    subst hv'
    exact eqV hq e1 e2 (fun op => by cases op <;> simp [eqGuard, go_sem]) rfl rfl (equal_of _ _ _ _ _ fun n => by simp [Op.equalIn, run_underlying ht]) r
  · split at hn
    · rename_i hc
      obtain ⟨hk, rfl⟩ := ifK_ok hn
      obtain ⟨ms, ht⟩ := kind5 hk
      have hu' : u = .nilIface := hu
      have hv' : v = .nilIface := hv
      subst hv' hu'
      refine eqV hq e1 e2 (fun op => ?_) rfl rfl (equal_of _ _ _ _ _ fun n => by simp [Op.equalIn, run_underlying ht]) r
      cases y <;> simp [Region.isConst] at hc
      cases op <;> simp [eqGuard, go_sem]
    · cases hn
  · rename_i b c
    obtain ⟨hk, rfl⟩ := ifK_ok hn
    have ht := kind1 hk
    have hu' : u = .bool b := hu
    have hv' : v = .bool c := hv
    subst hv' hu'
    exact eqV hq e1 e2 (fun op => by cases op <;> simp [eqGuard, go_sem]) rfl rfl (equal_of _ _ _ _ _ fun n => by simp [Op.equalIn, run_underlying ht]) r
  · cases hn
/-! values of plain types: the same just if their cells are -/
theorem keq_ok {k k' : IntKind} (h : keq k k' = true) : k = k' := of_decide_eq_true h
theorem seq_ok {s t : SV} {u v : Value} {e : Bool} (hs : seq s t = some e) (hu : SvD F φ s u) (hv : SvD F φ t v) :
    (∃ k m n, u = .int k m ∧ v = .int k n ∧ e = (m == n)) ∨ (∃ b c, u = .bool b ∧ v = .bool c ∧ e = (b == c)) ∨ (∃ b c : ByteArray, u = .string b ∧ v = .string c ∧ e = decide (b.toList = c.toList)) := by
  unfold seq at hs
  split at hs
  · rename_i k m k' n
    split at hs
    · rename_i hk
      cases hs
      have := keq_ok hk
      subst this
      exact .inl ⟨k, m, n, hu, hv, by rw [ieq_eq]; rfl⟩
    · cases hs
  · rename_i b c
    cases hs
    exact .inr (.inl ⟨b, c, hu, hv, rfl⟩)
  · rename_i n x m y
    cases hs
    obtain ⟨hx, rfl⟩ := hu
    obtain ⟨hy, rfl⟩ := hv
    refine .inr (.inr ⟨_, _, rfl, rfl, ?_⟩)
    rw [str_eq hx hy]
  · cases hs
theorem str_op_ok {op : BinOp} {n s m t : Nat} {q : AV} (h : strOp n s m t op = some q) (hs : s < 256 ^ n) (ht : t < 256 ^ m) (w : World) : ∃ u, (do eqGuard op T x y (.string (strOf (unp n s))) (.string (strOf (unp m t))); binOp op T (.string (strOf (unp n s))) (.string (strOf (unp m t))) : Sem Value).run P w = .ok u w ∧ AvD F φ q u := by
  have he := str_eq hs ht
  cases op with
  | add =>
    dsimp only [strOp] at h
    split at h
    · rename_i hle
      cases h
      have hle := Nat.le_of_ble_eq_true hle
      refine ⟨.string (strOf (unp n s) ++ strOf (unp m t)), ?_, ?_⟩
      · have h1 : (strOf (unp n s)).size = n := by show (unp n s).toArray.size = n; simp [unp_len]
        have h2 : (strOf (unp m t)).size = m := by show (unp m t).toArray.size = m; simp [unp_len]
        have h3 : ¬ ((n + m : Nat) : Int) > IntKind.i64.max := by
          have : IntKind.i64.max = 9223372036854775807 := by decide
          rw [this]; omega
        simp only [eqGuard, binOp, Op.stringOp, h1, h2, if_neg h3]
        simp [go_sem]
      · have hm : t % 256 ^ m = t := Nat.mod_eq_of_lt ht
        refine ⟨?_, ?_⟩
        · rw [hm, Nat.pow_add]
          calc s * 256 ^ m + t < s * 256 ^ m + 256 ^ m := by omega
            _ = (s + 1) * 256 ^ m := by rw [Nat.add_mul, Nat.one_mul]
            _ ≤ 256 ^ n * 256 ^ m := Nat.mul_le_mul_right _ hs
        · rw [hm, unp_cat n m s t ht]
          congr 1
    · cases h
  | eql =>
    cases h
    refine ⟨.bool (decide ((strOf (unp n s)).toList = (strOf (unp m t)).toList)), by simp [eqGuard, binOp, Op.stringOp, go_sem]; rw [Bool.eq_iff_iff]; simp, ?_⟩
    show Value.bool _ = Value.bool _
    rw [he]
  | neq =>
    cases h
    refine ⟨.bool (!decide ((strOf (unp n s)).toList = (strOf (unp m t)).toList)), by simp [eqGuard, binOp, Op.stringOp, go_sem]; rw [Bool.eq_iff_iff]; simp, ?_⟩
    show Value.bool _ = Value.bool _
    rw [he]
  | _ => cases h
theorem isU8_ok (h : isU8 E = true) : P.underlying E = some (.int .u8) := by
  unfold isU8 at h
  split at h
  · rename_i hu; exact undT_ok hu
  · cases h
theorem pack_eq {xs ys : List SV} {us vs : List Value} {p q n : Nat} (hx : All2 (SvD F φ) xs us) (hy : All2 (SvD F φ) ys vs) (hp : packB xs 0 = some p) (hq : packB ys 0 = some q) (lx : xs.length = n) (ly : ys.length = n) :
    ∃ p1 p2 : List UInt8, us = u8s p1 ∧ vs = u8s p2 ∧ p1.length = n ∧ p2.length = n ∧ decide (p1 = p2) = Nat.beq p q := by
  obtain ⟨z, hz, e1, e2⟩ := packB_ok xs us 0 p hx hp
  obtain ⟨z', hz', e1', e2'⟩ := packB_ok ys vs 0 q hy hq
  rw [Nat.zero_mul, Nat.zero_add] at e1 e1'
  subst e1 e1'
  rw [lx] at hz e2
  rw [ly] at hz' e2'
  refine ⟨unp n p, unp n q, e2, e2', unp_len _ _, unp_len _ _, ?_⟩
  rw [Bool.eq_iff_iff]
  simp only [decide_eq_true_eq, Nat.beq_eq]
  exact ⟨fun e => unp_inj _ _ _ hz hz' e, fun e => by rw [e]⟩
theorem toList_inj {b c : ByteArray} (h : b.toList = c.toList) : b = c := by
  rw [ByteArray.toList_eq, ByteArray.toList_eq] at h
  exact ByteArray.ext (Array.ext' h)
theorem cmp1_ok {s t : SV} {k : Option Bool} {e : Bool} (h : cmp1 s t k = some e) : ∃ b r, seq s t = some b ∧ k = some r ∧ e = (b && r) := by
  unfold cmp1 at h
  split at h
  · rename_i b hb
    split at h
    · rename_i r; cases h; exact ⟨b, r, hb, rfl, rfl⟩
    · cases h
  · cases h
/-- The same, bit for bit. -/
def Bits (u : Value) : Prop := ∀ n, Instr.sameBits n u u = true
def Same3 (e : Bool) (us vs : List Value) : Prop := e = true → us = vs ∧ ∀ u ∈ us, Bits u
theorem bits_int (k : IntKind) (n : Int) : Bits (.int k n) := fun m => by cases m <;> simp [Instr.sameBits]
theorem bits_bool (b : Bool) : Bits (.bool b) := fun m => by cases m <;> simp [Instr.sameBits]
theorem bits_str (s : ByteArray) : Bits (.string s) := fun m => by
  have : (s == s) = true := by show (s.data == s.data) = true; simp
  cases m <;> simp [Instr.sameBits, this]
theorem bits_u8s (bs : List UInt8) : ∀ u ∈ u8s bs, Bits u := fun u hu => by
  unfold u8s at hu
  obtain ⟨c, _, rfl⟩ := List.mem_map.1 hu
  exact bits_int _ _
theorem bits_agg {us : List Value} (h : ∀ u ∈ us, Bits u) (n : Nat) : Instr.sameBits (n + 1) (.agg us.toArray) (.agg us.toArray) = true := by
  unfold Instr.sameBits
  simp only [BEq.rfl, Bool.true_and]
  induction us with
  | nil => rfl
  | cons u us ih =>
    simp only [List.zip_cons_cons, List.all_cons, Bool.and_eq_true]
    exact ⟨h u (List.mem_cons_self ..) n, ih fun v hv => h v (List.mem_cons_of_mem _ hv)⟩
theorem same3_app {b r : Bool} {us vs us' vs' : List Value} (h1 : Same3 b us vs) (h2 : Same3 r us' vs') : Same3 (b && r) (us ++ us') (vs ++ vs') := fun e => by
  rw [Bool.and_eq_true] at e
  obtain ⟨rfl, p⟩ := h1 e.1
  obtain ⟨rfl, q⟩ := h2 e.2
  refine ⟨rfl, fun u hu => ?_⟩
  rcases List.mem_append.1 hu with k | k
  · exact p u k
  · exact q u k
theorem same3_one {b : Bool} {u v : Value} (h : b = true → u = v) (hb : Bits u) : Same3 b [u] [v] := fun e => by
  rw [h e] at hb ⊢
  exact ⟨rfl, fun x hx => by rw [List.mem_singleton.1 hx]; exact hb⟩
theorem eqFs_ok {sub : TypeId → List SV → List SV → Option Bool} {D : Nat} (hsub : ∀ T xs ys us vs e, sub T xs ys = some e → All2 (SvD F φ) xs us → All2 (SvD F φ) ys vs → (∀ w, (Op.equalIn (D + 2) T (.agg us.toArray) (.agg vs.toArray)).run P w = .ok e w) ∧ Same3 e us vs) :
    ∀ (fs : List Field) (o : Nat) (xs ys : List SV) (us vs : List Value) (e : Bool), eqFs sub fs o xs ys = some e → All2 (SvD F φ) xs us → All2 (SvD F φ) ys vs → EqC P (D + 2) o us vs fs e ∧ Same3 e us vs := by
  intro fs
  induction fs with
  | nil =>
    intro o xs ys us vs e h hx hy
    unfold eqFs at h
    split at h
    · cases h; cases hx; cases hy; exact ⟨.nil, fun _ => ⟨rfl, fun u hu => by cases hu⟩⟩
    · cases h
  | cons f fs ih =>
    intro o xs ys us vs e h hx hy
    unfold eqFs at h
    split at h
    · cases h
    · rename_i hn
      have hn : f.name ≠ "_" := of_decide_eq_false hn
      split at h
      · cases h
      · rename_i ho
        have ho := Nat.eq_of_beq_eq_true ho
        split at h
        · -- a struct
          rename_i fs' hu
          obtain ⟨n, hz, h⟩ := oget_some h
          obtain ⟨xs1, hx1, h⟩ := oget_some h
          obtain ⟨ys1, hy1, h⟩ := oget_some h
          split at h
          · rename_i b hb
            split at h
            · rename_i r hr
              cases h
              obtain ⟨rfl, lx⟩ := ltake_eq _ _ _ hx1
              obtain ⟨rfl, ly⟩ := ltake_eq _ _ _ hy1
              rw [ldrop_eq, ldrop_eq] at hr
              have t1 := ih _ _ _ _ _ _ hr (hx.drop n) (hy.drop n)
              have a1 := hx.take n
              have a2 := hy.take n
              obtain ⟨q1, q2⟩ := hsub _ _ _ _ _ _ hb a1 a2
              have k1 := EqC.sub (P := P) (d := D + 2) hn ho (tagg_ok hz) (by rw [← a1.len, lx]) (by rw [← a2.len, ly]) q1 t1.1
              have k2 := same3_app q2 t1.2
              rw [List.take_append_drop, List.take_append_drop] at k1 k2
              exact ⟨k1, k2⟩
            · cases h
          · cases h
        · rename_i n E hu
          split at h
          · rename_i n' E' m h8 ht hz
            split at h
            · rename_i hm
              have hm := Nat.eq_of_beq_eq_true hm
              subst hm
              obtain ⟨xs1, hx1, h⟩ := oget_some h
              obtain ⟨ys1, hy1, h⟩ := oget_some h
              obtain ⟨p, hp, h⟩ := oget_some h
              obtain ⟨q, hq, h⟩ := oget_some h
              split at h
              · rename_i r hr
                cases h
                obtain ⟨rfl, lx⟩ := ltake_eq _ _ _ hx1
                obtain ⟨rfl, ly⟩ := ltake_eq _ _ _ hy1
                rw [ldrop_eq, ldrop_eq] at hr
                have t1 := ih _ _ _ _ _ _ hr (hx.drop m) (hy.drop m)
                obtain ⟨p1, p2, ea, eb, la, lb, ed⟩ := pack_eq (hx.take m) (hy.take m) hp hq lx ly
                have hta := tarr_ok ht
                have hEn : n' = m ∧ E' = E := by
                  obtain ⟨h1, _⟩ := arrOf_info hta
                  rw [undT_ok hu] at h1
                  cases h1; exact ⟨rfl, rfl⟩
                obtain ⟨rfl, rfl⟩ := hEn
                have k1 := EqC.arr (P := P) (d := D + 2) hn ho hta (tagg_ok hz) (isU8_ok h8) la lb t1.1
                have k2 : Same3 (decide (p1 = p2)) (u8s p1) (u8s p2) := fun e => by rw [of_decide_eq_true e]; exact ⟨rfl, bits_u8s _⟩
                have k3 := same3_app k2 t1.2
                rw [ed, ← ea, ← eb, List.take_append_drop, List.take_append_drop] at k1 k3
                exact ⟨k1, k3⟩
              · cases h
            · cases h
          · cases h
        · rename_i k hk1 hk2 hu
          split at h
          · cases h
          · rename_i s xs'
            split at h
            · cases h
            · rename_i t ys'
              split at h
              · rename_i hf
                rw [Bool.and_eq_true] at hf
                obtain ⟨b, r, hb, hr, rfl⟩ := cmp1_ok h
                cases hx with
                | @cons _ u _ us' h1 h2 =>
                cases hy with
                | @cons _ v _ vs' g1 g2 =>
                have t1 := ih _ _ _ _ _ _ hr h2 g2
                have hu' := undT_ok hu
                cases k with
                | int k' =>
                  rcases seq_ok hb h1 g1 with ⟨kk, m, n, rfl, rfl, rfl⟩ | ⟨b1, c1, rfl, rfl, rfl⟩ | ⟨b1, c1, rfl, rfl, rfl⟩
                  · have k1 := EqC.int (P := P) (d := D + 2) (k := kk) (a := m) (b := n) hn ho hu' t1.1
                    have k2 := same3_app (same3_one (b := decide (m = n)) (u := Value.int kk m) (v := .int kk n) (fun e => by rw [of_decide_eq_true e]) (bits_int _ _)) t1.2
                    exact ⟨k1, k2⟩
                  · exfalso; cases s <;> first | (cases hf.1; done) | (cases h1; done)
                  · exfalso; cases s <;> first | (cases hf.1; done) | (cases h1; done)
                | bool =>
                  rcases seq_ok hb h1 g1 with ⟨kk, m, n, rfl, rfl, rfl⟩ | ⟨b1, c1, rfl, rfl, rfl⟩ | ⟨b1, c1, rfl, rfl, rfl⟩
                  · exfalso; cases s <;> first | (cases hf.1; done) | (cases h1; done)
                  · have k1 := EqC.bool (P := P) (d := D + 2) (a := b1) (b := c1) hn ho hu' t1.1
                    have k2 := same3_app (same3_one (b := decide (b1 = c1)) (u := Value.bool b1) (v := .bool c1) (fun e => by rw [of_decide_eq_true e]) (bits_bool _)) t1.2
                    rw [show decide (b1 = c1) = (b1 == c1) from by cases b1 <;> cases c1 <;> rfl] at k1 k2
                    exact ⟨k1, k2⟩
                  · exfalso; cases s <;> first | (cases hf.1; done) | (cases h1; done)
                | string =>
                  rcases seq_ok hb h1 g1 with ⟨kk, m, n, rfl, rfl, rfl⟩ | ⟨b1, c1, rfl, rfl, rfl⟩ | ⟨b1, c1, rfl, rfl, rfl⟩
                  · exfalso; cases s <;> first | (cases hf.1; done) | (cases h1.2; done)
                  · exfalso; cases s <;> first | (cases hf.1; done) | (cases h1.2; done)
                  · have k1 := EqC.str (P := P) (d := D + 2) (a := b1) (b := c1) hn ho hu' t1.1
                    have k2 := same3_app (same3_one (b := decide (b1.toList = c1.toList)) (u := Value.string b1) (v := .string c1) (fun e => by rw [toList_inj (of_decide_eq_true e)]) (bits_str _)) t1.2
                    exact ⟨k1, k2⟩
                | _ => exfalso; cases s <;> (cases hf.1)
              · cases h
        · cases h
theorem eqSt_succ (d : Nat) (T : TypeId) (xs ys : List SV) : eqSt (d + 1) T xs ys = eqStB (eqSt d) T xs ys := rfl
theorem eqSt_ok (d : Nat) : ∀ (D : Nat) (T : TypeId) (xs ys : List SV) (us vs : List Value) (e : Bool), d ≤ D → eqSt d T xs ys = some e → All2 (SvD F φ) xs us → All2 (SvD F φ) ys vs → (∀ w, (Op.equalIn (D + 2) T (.agg us.toArray) (.agg vs.toArray)).run P w = .ok e w) ∧ Same3 e us vs := by
  induction d with
  | zero => intro D T xs ys us vs e hd h hx hy; cases h
  | succ d ih =>
    intro D T xs ys us vs e hd h hx hy
    obtain ⟨D, rfl⟩ : ∃ D', D = D' + 1 := ⟨D - 1, by omega⟩
    rw [eqSt_succ] at h
    unfold eqStB at h
    split at h
    · rename_i fs hu
      split at h
      · cases h
      · rename_i hs
        have hu := undT_ok hu
        have hf : P.fieldsOf T = fs := by unfold Program.fieldsOf; rw [hu]
        have hc := eqFs_ok (D := D) (fun T xs ys us vs e h1 h2 h3 => ih D T xs ys us vs e (by omega) h1 h2 h3) _ _ _ _ _ _ _ h hx hy
        rw [← hf] at hc hu
        exact ⟨fun w => eqC_struct (d := D) hu hs hc.1 w, hc.2⟩
    · cases h
theorem arr_guard {n : Nat} (ht : P.underlying T = some (.array n E)) (he : P.underlying E = some (.int .u8)) : P.eqGuardType P.depth T = false := by
  obtain ⟨D, hD⟩ : ∃ D, P.depth = D + 2 := ⟨P.depth - 2, by unfold Program.depth; omega⟩
  rw [hD]
  unfold Program.eqGuardType
  rw [ht]
  dsimp only
  unfold Program.eqGuardType
  rw [he]
/-- Two aggregates: the same by the model, too. -/
theorem eqAgg_ok {xs ys : List SV} {us vs : List Value} {e : Bool} (hn : eqAgg T xs ys = some e) (hu : All2 (SvD F φ) xs us) (hv : All2 (SvD F φ) ys vs) :
    P.eqGuardType P.depth T = false ∧ (∀ w, (Op.equal T (.agg us.toArray) (.agg vs.toArray)).run P w = .ok e w) ∧ Same3 e us vs := by
  obtain ⟨D, hD, h5⟩ : ∃ D, Op.maxDepth = D + 2 ∧ 5 ≤ D := ⟨Op.maxDepth - 2, by unfold Op.maxDepth; omega, by unfold Op.maxDepth; omega⟩
  unfold eqAgg at hn
  split at hn
  · rename_i fs ht
    split at hn
    · cases hn
    · rename_i hg
      obtain ⟨k1, k2⟩ := eqSt_ok 5 D T xs ys us vs e h5 hn hu hv
      refine ⟨hg, fun w => ?_, k2⟩
      unfold Op.equal
      rw [hD]
      exact k1 w
  · rename_i n E ht
    split at hn
    · rename_i n' E' h8 hta
      split at hn
      · rename_i hl
        rw [Bool.and_eq_true] at hl
        have l1 := Nat.eq_of_beq_eq_true hl.1
        have l2 := Nat.eq_of_beq_eq_true hl.2
        obtain ⟨p, hp, hn⟩ := oget_some hn
        cases hqq : packB ys 0 with
        | none => rw [hqq] at hn; cases hn
        | some q' =>
          rw [hqq] at hn
          cases hn
          obtain ⟨p1, p2, rfl, rfl, la, lb, ed⟩ := pack_eq hu hv hp hqq l1 l2
          obtain ⟨h1, i, hi, hs⟩ := arrOf_info (tarr_ok hta)
          have ht := undT_ok ht
          rw [ht] at h1
          cases h1
          refine ⟨arr_guard ht (isU8_ok h8), fun w => ?_, ?_⟩
          · show _ = Result.ok (Nat.beq p q') w
            rw [← ed]
            unfold Op.equal
            rw [hD]
            have h3 := run_equalIn_bytes w D T _ _ ht (isU8_ok h8) (fun w => by rw [run_sizeOf hi, hs]) p1 p2 la lb
            rw [show decide (p1 = p2) = (p1 == p2) from by rw [Bool.eq_iff_iff]; simp]
            exact h3
          · intro e
            have e : Nat.beq p q' = true := e
            rw [← ed] at e
            rw [of_decide_eq_true e]
            exact ⟨rfl, bits_u8s _⟩
      · cases hn
    · cases hn
  · cases hn
theorem agg_eq {op : BinOp} {xs ys : List SV} {us vs : List Value} {e : Bool} {q : AV} (hn : eqAgg T xs ys = some e) (hu : All2 (SvD F φ) xs us) (hv : All2 (SvD F φ) ys vs) (hq : eqRes op e = some q) (e1 : a.eval x = .agg us.toArray) (e2 : a.eval y = .agg vs.toArray) (r : HR F φ h w) :
    OpM ⟨d, .binOp op T x y T', U, pos, af, g⟩ a.eval F φ nx w q h nx := by
  obtain ⟨k1, k2, _⟩ := eqAgg_ok hn hu hv
  exact eqV hq e1 e2 (fun op => by cases op <;> simp [eqGuard, go_sem, k1]) rfl rfl (k2 w) r
theorem bin_ok {op : BinOp} (hx : OpOk F φ l a.eval x) (hy : OpOk F φ l a.eval y) (r : HR F φ h w) : SROk ⟨d, .binOp op T x y T', U, pos, af, g⟩ a.eval F φ h nx w (sBin op T x y T' l h nx) := by
  refine on2_ok hx hy fun v v' hv hv' => srv_ok fun q hq => ?_
  have fin : ∀ {u v u' : Value}, a.eval x = u → a.eval y = v → (do eqGuard op T x y u v; binOp op T u v : Sem Value).run P w = .ok u' w → AvD F φ q u' → OpM ⟨d, .binOp op T x y T', U, pos, af, g⟩ a.eval F φ nx w q h nx := fun {u v u'} e1 e2 hr hq => by
    refine OpM.val (u := u') ?_ hq r
    refine run_v (s := do eqGuard op T x y (a.eval x) (a.eval y); binOp op T (a.eval x) (a.eval y)) ?_
    rw [e1, e2]; exact hr
  unfold binE at hq
  split at hq
  · rename_i k m
    split at hq
    · rename_i k' n
      unfold intB at hq
      split at hq
      · obtain ⟨u, hr, hu⟩ := shOp_ok (F := F) (φ := φ) (T := T) (x := x) (y := y) (k' := k') hq w
        exact fin hv hv' hr hu
      · obtain ⟨u, hr, hu⟩ := shOp_ok (F := F) (φ := φ) (T := T) (x := x) (y := y) (k' := k') hq w
        exact fin hv hv' hr hu
      · rename_i h1 h2
        split at hq
        · rename_i hk
          have := keq_ok hk
          subst this
          obtain ⟨u, hr, hu⟩ := intOp_ok (F := F) (φ := φ) (T := T) (x := x) (y := y) (by intro e; exact h1 e) (by intro e; exact h2 e) hq w
          exact fin hv hv' hr hu
        · cases hq
    · cases hq
  · rename_i n s
    split at hq
    · rename_i m t
      obtain ⟨hs, e1⟩ := hv
      obtain ⟨ht, e2⟩ := hv'
      obtain ⟨u, hr, hu⟩ := str_op_ok (F := F) (φ := φ) (T := T) (x := x) (y := y) hq hs ht w
      exact fin e1 e2 hr hu
    · cases hq
  · have key : ∃ e, eqOp (Region.isConst y) T v v' = some e ∧ eqRes op e = some q := by
      unfold eqB at hq
      split at hq
      · cases he : eqOp (Region.isConst y) T v v' with
        | none => rw [he] at hq; cases hq
        | some e => rw [he] at hq; exact ⟨e, rfl, hq⟩
      · cases he : eqOp (Region.isConst y) T v v' with
        | none => rw [he] at hq; cases hq
        | some e => rw [he] at hq; exact ⟨e, rfl, hq⟩
      · cases hq
    obtain ⟨e, he, hq2⟩ := key
    unfold eqOp at he
    split at he
    · exact nil_eq he hv hv' hq2 rfl rfl r
    · obtain ⟨us, hu, e1⟩ := hv
      obtain ⟨vs, hw, e2⟩ := hv'
      exact agg_eq he hu hw hq2 e1 e2 r
    · cases he
end
end Go.Proofs.YtjjjckmpkldgnaaGreatDoor.Rk
