/-
  The reckoner's operations are the model's: maps. Plain theorems; no condition.
  The reckoner's operations are the model's: maps read and written. Plain theorems; no condition.
-/
import Derived.Test.YtjjjckmpkldgnaaGreatDoorLc
namespace Go.Proofs.YtjjjckmpkldgnaaGreatDoor.Rk
open Go.RowKit
set_option maxRecDepth 100000
/-! keys' types -/
noncomputable def chkF (sub : TypeId → Bool) (m : Nat) (f : Field) : Bool := sub f.type && (match tsz f.type with
  | some s => Nat.ble (f.offset + s) m
  | none => false)
noncomputable def chkB (sub : TypeId → Bool) (T : TypeId) : Bool := match undT T with
  | some (.int _) => tplain T
  | some .string => tplain T
  | some .bool => tplain T
  | some (.array n E) => match undT E, tsz E, tsz T with
    | some (.int _), some 1, some m => Nat.beq m n && tplain E
    | _, _, _ => false
  | some (.struct fs) => match tsz T with
    | some m => fs.toList.all (chkF sub m)
    | none => false
  | _ => false
noncomputable def chkK (d : Nat) : TypeId → Bool := Nat.rec (motive := fun _ => TypeId → Bool) (fun _ => false) (fun _ ih => chkB ih) d
theorem chkK_succ (d : Nat) (T : TypeId) : chkK (d + 1) T = chkB (chkK d) T := rfl
noncomputable def keyOfT (i : TypeInfo) : Bool := match i.desc with
  | .map k _ => chkK 5 k
  | _ => true
theorem keys_all : P.types.toList.all keyOfT = true := by decide +kernel
/-- Of the type's form. -/
def Form (T : TypeId) (v : Value) : Prop := ∀ m, tagg T = some m → ∃ us : List Value, v = .agg us.toArray ∧ us.length = m
section
variable {F : PH} {φ : Vl}
theorem chk_bool {T : TypeId} (hk : P.underlying T = some .bool) (n : Nat) (b : Bool) (v : Value) (w : World) : (Instr.checkKey b (n + 1) T v).run P w = .ok () w := by
  cases v <;> simp [Instr.checkKey, run_underlying hk]
theorem part_form {T : TypeId} {s off : Nat} {us : List Value} (hT : tagg T = some s ∨ tplain T = true) (hs : tsz T = some s) (hl : off + s ≤ us.length) (w : World) : ∃ v, (part T us.toArray off).run P w = .ok v w ∧ Form T v := by
  rcases hT with h | h
  · refine ⟨_, run_part_n (tagg_ok h) w, fun m hm => ?_⟩
    rw [h] at hm; cases hm
    exact ⟨_, rfl, by rw [List.length_take, List.length_drop]; omega⟩
  · obtain ⟨ds, e1, e2⟩ := tplain_und h
    have hs1 : s = 1 := by
      unfold tplain at h
      split at h
      · cases h
      · cases h
      · rw [hs] at h
        split at h
        · rename_i e; cases e; rfl
        · cases h
      · cases h
    subst hs1
    have hlt : off < us.length := by omega
    refine ⟨us[off], ?_, fun m hm => ?_⟩
    · cases ds <;> first | exact run_part_1 e1 rfl (List.getElem?_eq_getElem hlt) w | cases e2
    · exfalso
      unfold tagg at hm
      split at hm
      · rename_i hu; rw [undT_ok hu] at e1; cases e1; cases e2
      · rename_i hu; rw [undT_ok hu] at e1; cases e1; cases e2
      · cases hm
theorem chkB_two {sub : TypeId → Bool} {T : TypeId} {s : Nat} (h : chkB sub T = true) (hs : tsz T = some s) : tagg T = some s ∨ tplain T = true := by
  unfold chkB at h
  split at h
  · exact .inr h
  · exact .inr h
  · exact .inr h
  · rename_i hu; left; unfold tagg; rw [hu]; exact hs
  · rename_i hu; left; unfold tagg; rw [hu]; exact hs
  · cases h
theorem chkK_ok : ∀ (d : Nat) (T : TypeId), chkK d T = true → ∀ (b : Bool) (n : Nat) (v : Value), d < n → Form T v → ∀ w, (Instr.checkKey b n T v).run P w = .ok () w := by
  intro d
  induction d with
  | zero => intro T h; cases h
  | succ d ih =>
    intro T h b n v hn hv w
    obtain ⟨n, rfl⟩ : ∃ m, n = m + 1 := ⟨n - 1, by omega⟩
    rw [chkK_succ] at h
    have h0 := h
    unfold chkB at h
    split at h
    · rename_i k hu; exact checkKey_int (undT_ok hu) n b v w
    · rename_i hu; exact checkKey_str (undT_ok hu) n b v w
    · rename_i hu; exact chk_bool (undT_ok hu) n b v w
    · rename_i len E hu
      split at h
      · rename_i k m he hs hm
        rw [Bool.and_eq_true] at h
        have hm' := Nat.eq_of_beq_eq_true h.1
        subst hm'
        obtain ⟨us, rfl, hl⟩ := hv m (by unfold tagg; rw [hu]; exact hm)
        obtain ⟨i, hi, hs⟩ := tsz_ok hs
        obtain ⟨n, rfl⟩ : ∃ m, n = m + 1 := ⟨n - 1, by omega⟩
        rw [Instr.checkKey]
        simp only [Sem.run_bind, run_underlying (undT_ok hu), Result.andThen_ok]
        simp only [Std.Legacy.Range.forIn_eq_forIn_range', Std.Legacy.Range.size, Nat.sub_zero, Nat.add_one_sub_one, Nat.div_one]
        have each : ∀ j ∈ List.range' 0 m, j < m := fun j hj => by simp at hj; omega
        generalize List.range' 0 m = is at each
        induction is with
        | nil => simp
        | cons j is ih2 =>
          have hj := each j (by simp)
          have hlt : j * 1 < us.length := by omega
          have p1 := run_part_1 (cs := us) (off := j * 1) (T := E) (v := us[j * 1]) (undT_ok he) rfl (List.getElem?_eq_getElem hlt) w
          have p2 := checkKey_int (undT_ok he) n b us[j * 1] w
          simp only [List.forIn_cons, Sem.run_bind, run_sizeOf hi, hs, Result.andThen_ok, p1, p2, Sem.run_pure]
          exact ih2 (fun y hy => each y (by simp [hy]))
      · cases h
    · rename_i fs hu
      split at h
      · rename_i m hm
        obtain ⟨us, rfl, hl⟩ := hv m (by unfold tagg; rw [hu]; exact hm)
        rw [Instr.checkKey]
        simp only [Sem.run_bind, run_underlying (undT_ok hu), Result.andThen_ok]
        rw [← Array.forIn_toList]
        generalize fs.toList = l at h
        induction l with
        | nil => simp
        | cons f l ih2 =>
          rw [List.all_cons, Bool.and_eq_true] at h
          obtain ⟨hf, h⟩ := h
          unfold chkF at hf
          rw [Bool.and_eq_true] at hf
          obtain ⟨hf1, hf2⟩ := hf
          have ih3 := ih2 h
          simp only [List.forIn_cons, Sem.run_bind]
          by_cases hn : f.name = "_"
          · simp only [hn, ne_eq, not_true_eq_false, if_false, Sem.run_pure, Result.andThen_ok]
            exact ih3
          · split at hf2
            · rename_i s hs
              have hle := Nat.le_of_ble_eq_true hf2
              have h2 : tagg f.type = some s ∨ tplain f.type = true := by
                cases d with
                | zero => cases hf1
                | succ d => exact chkB_two (chkK_succ d _ ▸ hf1) hs
              obtain ⟨u, p1, p2⟩ := part_form (us := us) (off := f.offset) h2 hs (by omega) w
              have p3 := ih f.type hf1 b n u (by omega) p2 w
              simp only [hn, ne_eq, not_false_eq_true, if_true, Sem.run_bind, p1, p3, Result.andThen_ok, Sem.run_pure]
              exact ih3
            · cases hf2
      · cases h
    · cases h
/-! keys found -/
theorem beq_bytes (b : ByteArray) : (b == b) = true := by show (b.data == b.data) = true; simp
theorem eq_of_beq_bytes {b c : ByteArray} (h : (b == c) = true) : b = c := by
  have h : (b.data == c.data) = true := h
  exact ByteArray.ext (by simpa using h)
theorem tmap_ok {T kt et : TypeId} (h : tmap T = some (kt, et)) : P.underlying T = some (.map kt et) ∧ chkK 5 kt = true := by
  unfold tmap at h
  split at h
  · rename_i k e hu
    cases h
    refine ⟨undT_ok hu, ?_⟩
    have key : ∀ {T : TypeId} {i : TypeInfo}, infoT T = some i → i.desc = .map kt et → chkK 5 kt = true := fun {T i} e k => by
      have h1 := List.all_eq_true.1 keys_all _ (infoT_mem e)
      unfold keyOfT at h1
      rw [k] at h1
      exact h1
    unfold undT at hu
    cases hi : infoT T with
    | none => rw [hi] at hu; cases hu
    | some i =>
      rw [hi] at hu
      dsimp only at hu
      split at hu
      · rename_i nm u hd
        cases hu2 : infoT u with
        | none => rw [hu2] at hu; cases hu
        | some j => rw [hu2] at hu; exact key hu2 (Option.some.inj hu)
      · exact key hi (Option.some.inj hu)
  · cases h
theorem keyV_ok {T : TypeId} {k : TV} {u : Value} (h : keyV T k = true) (hk : TvD F φ k u) : Form T u := fun m hm => by
  unfold keyV at h
  rw [hm] at h
  dsimp only at h
  cases k with
  | s x => cases h
  | agg xs =>
    obtain ⟨us, hus, rfl⟩ := hk
    exact ⟨us, rfl, by rw [← hus.len]; exact Nat.eq_of_beq_eq_true h⟩
theorem tv_bits {x : SV} {y : SV} {u v : Value} (h : seq x y = some true) (hu : SvD F φ x u) (hv : SvD F φ y v) : u = v ∧ Bits u := by
  rcases seq_ok h hu hv with ⟨k, m, n, rfl, rfl, e⟩ | ⟨b, c, rfl, rfl, e⟩ | ⟨b, c, rfl, rfl, e⟩
  · have : m = n := by simpa using e.symm
    rw [this]; exact ⟨rfl, bits_int _ _⟩
  · have : b = c := by simpa using e.symm
    rw [this]; exact ⟨rfl, bits_bool _⟩
  · have : b = c := toList_inj (of_decide_eq_true e.symm)
    rw [this]; exact ⟨rfl, bits_str _⟩
/-- What is found among the entries, from the place i on. -/
def FdD (F : PH) (φ : Vl) (i : Nat) (ms : List MapEntry) (u : Value) : Option (Nat × TV × Nat) → Option (Nat × Value) → Prop
  | none, q => q = none
  | some (j, v, b), q => ∃ m, i ≤ j ∧ ms[j - i]? = some m ∧ q = some (j, m.val) ∧ TvD F φ v m.val ∧ m.born = b ∧ m.key = u ∧ Instr.sameBits 10000 u u = true
theorem FdD.skip {i : Nat} {m : MapEntry} {ms : List MapEntry} {u : Value} {r : Option (Nat × TV × Nat)} {q : Option (Nat × Value)} (h : FdD F φ (i + 1) ms u r q) : FdD F φ i (m :: ms) u r q := by
  cases r with
  | none => exact h
  | some p =>
    obtain ⟨j, v, b'⟩ := p
    obtain ⟨m', a1, a2, a3⟩ := h
    refine ⟨m', by omega, ?_, a3⟩
    rw [show j - i = (j - (i + 1)) + 1 from by omega]
    exact a2
theorem mfind_plain {kd : TypeDesc} {kt : TypeId} {x : SV} {u : Value} (hx : SvD F φ x u) : ∀ {es : List (TV × TV × Nat)} {ms : List MapEntry} {i : Nat} {r : Option (Nat × TV × Nat)}, mfind (keyEq kd kt (.s x)) es i = some r → All2 (EsD F φ) es ms →
    ∃ q, Instr.findNow kd u ms i = some q ∧ FdD F φ i ms u r q
  | [], ms, i, r, h, hm => by cases h; cases hm; exact ⟨none, rfl, rfl⟩
  | (k', v', b) :: es, ms, i, r, h, hm => by
    cases hm with
    | @cons _ m _ ms' m1 m2 =>
    obtain ⟨mk, mv, mb⟩ := m1
    unfold mfind at h
    have key : ∀ {e : Bool}, keyEq kd kt (.s x) k' = some e → Instr.sameNow kd u m.key = some e ∧ (e = true → m.key = u ∧ Bits u) := fun {e} he => by
      cases k' with
      | agg ys => cases he
      | s y =>
        unfold keyEq at he
        dsimp only at he
        cases hk : fld1 kd x with
        | false => rw [hk] at he; cases he
        | true =>
        rw [hk] at he
        dsimp only at he
        split at he
        · rename_i hy
          have hky : SvD F φ y m.key := mk
          refine ⟨?_, fun e1 => ?_⟩
          · rcases seq_ok he hx hky with ⟨k, p, q, e1, e2, e3⟩ | ⟨p, q, e1, e2, e3⟩ | ⟨p, q, e1, e2, e3⟩
            · rw [e1, e2, e3]
              have : ∃ k0, kd = .int k0 := by
                cases x <;> cases kd <;> first | (cases hk; done) | exact ⟨_, rfl⟩ | (cases hx.symm.trans e1; done) | (obtain ⟨_, e4⟩ := hx; rw [e4] at e1; cases e1)
              obtain ⟨k0, rfl⟩ := this
              simp [Instr.sameNow]
            · rw [e1, e2, e3]
              have : kd = .bool := by
                cases x <;> cases kd <;> first | (cases hk; done) | rfl | (cases hx.symm.trans e1; done) | (obtain ⟨_, e4⟩ := hx; rw [e4] at e1; cases e1)
              subst this
              simp [Instr.sameNow]
            · rw [e1, e2, e3]
              have : kd = .string := by
                cases x <;> cases kd <;> first | (cases hk; done) | rfl | (cases hx.symm.trans e1; done)
              subst this
              show some (p == q) = _
              congr 1
              rw [Bool.eq_iff_iff, decide_eq_true_eq]
              constructor
              · intro e; rw [eq_of_beq_bytes e]
              · intro e; rw [toList_inj e]; exact beq_bytes _
          · subst e1
            obtain ⟨k1, k2⟩ := tv_bits he hx hky
            exact ⟨k1.symm, k2⟩
        · cases he
    split at h
    · rename_i hq
      cases h
      obtain ⟨k1, k2⟩ := key hq
      obtain ⟨k3, k4⟩ := k2 rfl
      exact ⟨some (i, m.val), by unfold Instr.findNow; rw [k1], m, Nat.le_refl _, by rw [Nat.sub_self]; rfl, rfl, mv, mb, k3, k4 _⟩
    · rename_i hq
      obtain ⟨k1, _⟩ := key hq
      obtain ⟨q, h1, h2⟩ := mfind_plain hx h m2
      exact ⟨q, by unfold Instr.findNow; rw [k1]; exact h1, h2.skip⟩
    · cases h
theorem mfind_agg {kd : TypeDesc} {kt : TypeId} {xs : List SV} {us : List Value} (hx : All2 (SvD F φ) xs us) : ∀ {es : List (TV × TV × Nat)} {ms : List MapEntry} {i : Nat} {r : Option (Nat × TV × Nat)}, mfind (keyEq kd kt (.agg xs)) es i = some r → All2 (EsD F φ) es ms →
    ∃ q, (∀ w, (Instr.findAsking kt (.agg us.toArray) ms i).run P w = .ok q w) ∧ FdD F φ i ms (.agg us.toArray) r q
  | [], ms, i, r, h, hm => by cases h; cases hm; exact ⟨none, fun w => rfl, rfl⟩
  | (k', v', b) :: es, ms, i, r, h, hm => by
    cases hm with
    | @cons _ m _ ms' m1 m2 =>
    obtain ⟨mk, mv, mb⟩ := m1
    unfold mfind at h
    have key : ∀ {e : Bool}, keyEq kd kt (.agg xs) k' = some e → (∀ w, (Op.equal kt (.agg us.toArray) m.key).run P w = .ok e w) ∧ (e = true → m.key = .agg us.toArray ∧ Instr.sameBits 10000 (.agg us.toArray) (.agg us.toArray) = true) := fun {e} he => by
      cases k' with
      | s y => cases he
      | agg ys =>
        obtain ⟨vs, hv, e1⟩ := mk
        have he : eqAgg kt xs ys = some e := he
        obtain ⟨_, k2, k3⟩ := eqAgg_ok he hx hv
        rw [e1]
        refine ⟨k2, fun e2 => ?_⟩
        obtain ⟨k4, k5⟩ := k3 e2
        exact ⟨by rw [k4], bits_agg k5 9999⟩
    split at h
    · rename_i hq
      cases h
      obtain ⟨k1, k2⟩ := key hq
      obtain ⟨k3, k4⟩ := k2 rfl
      exact ⟨some (i, m.val), fun w => by unfold Instr.findAsking; simp [k1], m, Nat.le_refl _, by rw [Nat.sub_self]; rfl, rfl, mv, mb, k3, k4⟩
    · rename_i hq
      obtain ⟨k1, _⟩ := key hq
      obtain ⟨q, h1, h2⟩ := mfind_agg hx h m2
      exact ⟨q, fun w => by unfold Instr.findAsking; simp [k1, h1], h2.skip⟩
    · cases h
/-- The key sought is looked for as the model does. -/
theorem mFind_ok {kt : TypeId} {k : TV} {u : Value} {es : List (TV × TV × Nat)} {ms : List MapEntry} {r : Option (Nat × TV × Nat)} (hc : chkK 5 kt = true) (h : mFind kt k es = some r) (hk : TvD F φ k u) (hm : All2 (EsD F φ) es ms) :
    (∀ b w, (Instr.checkKey b 10000 kt u).run P w = .ok () w) ∧ ∃ q, (∀ w, (Instr.findKey kt u ms).run P w = .ok q w) ∧ FdD F φ 0 ms u r q := by
  unfold mFind at h
  split at h
  · rename_i kd hu
    split at h
    · rename_i hv
      refine ⟨fun b w => chkK_ok 5 kt hc b 10000 u (by omega) (keyV_ok hv hk) w, ?_⟩
      have now : ∀ {q}, Instr.findNow kd u ms 0 = some q → ∀ w, (Instr.findKey kt u ms).run P w = .ok q w := fun {q} e w => by
        unfold Instr.findKey
        simp only [Sem.run_bind, run_underlying (undT_ok hu), Result.andThen_ok, e]
        rfl
      cases k with
      | s x =>
        obtain ⟨q, h1, h2⟩ := mfind_plain hk h hm
        exact ⟨q, now h1, h2⟩
      | agg xs =>
        obtain ⟨us, hus, rfl⟩ := hk
        cases es with
        | nil =>
          cases hm
          cases h
          exact ⟨none, now rfl, rfl⟩
        | cons e es =>
          have hw : (match P.underlying kt with | some (.array _ _) | some (.struct _) => true | _ => false) = true := by
            unfold mfind at h
            obtain ⟨k', v', b'⟩ := e
            dsimp only at h
            have : ∃ e, keyEq kd kt (.agg xs) k' = some e := by
              cases hq : keyEq kd kt (.agg xs) k' with
              | none => rw [hq] at h; cases h
              | some e => exact ⟨e, rfl⟩
            obtain ⟨e, he⟩ := this
            cases k' with
            | s y => cases he
            | agg ys =>
              have he : eqAgg kt xs ys = some e := he
              unfold eqAgg at he
              split at he
              · rename_i ht; rw [undT_ok ht]
              · rename_i ht; rw [undT_ok ht]
              · cases he
          obtain ⟨q, h1, h2⟩ := mfind_agg hus h hm
          exact ⟨q, fun w => by rw [run_findKey_eq w hw]; exact h1 w, h2⟩
    · cases h
  · cases h
end
end Go.Proofs.YtjjjckmpkldgnaaGreatDoor.Rk
namespace Go.Proofs.YtjjjckmpkldgnaaGreatDoor.Rk
open Go.RowKit
set_option maxRecDepth 100000
section
variable {a : Act} {F : PH} {φ : Vl} {l : Env} {h : Hp} {nx : Nat} {w : World} {d : Option Nat} {T T' U E : TypeId} {pos : String} {af : Array Edge} {g : Option (Nat × Bool)} {x y z : Operand}
theorem zeroTV_ok {v : TV} (h : zeroTV T = some v) : ∃ u, zeroV P T = some u ∧ TvD F φ v u := by
  unfold zeroTV at h
  obtain ⟨i, hi, h1⟩ := oget_some h
  obtain ⟨u, hu, h2⟩ := oget_some h1
  have e := infoT_ok hi
  have hz : zeroV P T = some u := by
    unfold zeroV
    rw [e]
    obtain ⟨⟩ := i
    exact hu
  refine ⟨u, hz, ?_⟩
  split at h2
  · rename_i cs
    cases hs : ofSs cs.toList with
    | none => rw [hs] at h2; cases h2
    | some xs => rw [hs] at h2; cases h2; exact ⟨cs.toList, ofSs_ok hs, by simp⟩
  · cases hs : ofS u with
    | none => rw [hs] at h2; cases h2
    | some xs => rw [hs] at h2; cases h2; exact ofS_ok (F := F) (φ := φ) hs
theorem tv_av {v : TV} {u : Value} (h : TvD F φ v u) : AvD F φ (ofTV v) u := by cases v <;> exact h
theorem av_tv {v : AV} {t : TV} {u : Value} (h : toTV v = some t) (hv : AvD F φ v u) : TvD F φ t u := by
  unfold toTV at h
  split at h
  · cases h; exact hv
  · cases h; exact hv
  · cases h
/-- A map's entries. -/
theorem mapOf_id {id : Nat} {es : List (TV × TV × Nat)} {c : Nat} {u : Value} (r : HR F φ h w) (hm : mapOf h (.s (.map id)) = some (es, c)) (hu : AvD F φ (.s (.map id)) u) : ∃ b κ ms, φ id = some (b, κ) ∧ u = .map (some b) ∧ h.get id = some (.map es c) ∧ w.heap[b]? = some (.map ms c) ∧ All2 (EsD F φ) es ms.toList := by
  obtain ⟨b, κ, hb, rfl⟩ := hu
  unfold mapOf at hm
  dsimp only at hm
  obtain ⟨o, ho, h1⟩ := oget_some hm
  split at h1
  · cases h1
    obtain ⟨ob, k1, ms, rfl, k2⟩ := r.obj _ _ _ _ ho hb
    exact ⟨b, κ, ms, hb, rfl, ho, k1, k2⟩
  · cases h1
theorem zeroOk_ok {ok : Bool} {o : Oper} {et : TypeId} (hf : ∀ v, zeroV P et = some v → (execOp a.eval o).run P w = .ok (.value (if ok then .tuple #[v, .bool false] else v)) w) (r : HR F φ h w) : SROk o a.eval F φ h nx w (zeroOk ok et) := by
  unfold zeroOk
  split
  · rename_i z hz
    obtain ⟨u, h1, h2⟩ := zeroTV_ok (F := F) (φ := φ) hz
    refine OpM.val (hf u h1) ?_ r
    cases ok with
    | true => exact ⟨[u, .bool false], .cons h2 (.cons rfl .nil), rfl⟩
    | false => exact tv_av h2
  · trivial
theorem lookup_ok {ok : Bool} (hx : OpOk F φ l a.eval x) (hy : OpOk F φ l a.eval y) (r : HR F φ h w) : SROk ⟨d, .lookup T x y ok, U, pos, af, g⟩ a.eval F φ h nx w (sLookup T x y ok l h nx) := by
  refine on2_ok hx hy fun v v' hv hv' => ?_
  unfold oLookup
  split
  · rename_i kt et ht
    obtain ⟨hu, hck⟩ := tmap_ok ht
    split
    · rename_i es c hm
      split
      · rename_i k hk
        have hk := av_tv hk hv'
        -- the map's entries
        have key : ∃ ms : Array MapEntry, All2 (EsD F φ) es ms.toList ∧ ((a.eval x = .map none ∧ ms = #[]) ∨ ∃ b c, a.eval x = .map (some b) ∧ w.heap[b]? = some (.map ms c)) := by
          unfold mapOf at hm
          split at hm
          · rename_i id
            obtain ⟨b, κ, ms, hb, e, _, k1, k2⟩ := mapOf_id r (show mapOf h (.s (.map id)) = some (es, c) from hm) hv
            exact ⟨ms, k2, .inr ⟨b, _, e, k1⟩⟩
          · cases hm
            exact ⟨#[], .nil, .inl ⟨hv, rfl⟩⟩
          · cases hm
        obtain ⟨ms, hms, hget⟩ := key
        have run : ∀ {q : Option (Nat × Value)}, (∀ b w, (Instr.checkKey b 10000 kt (a.eval y)).run P w = .ok () w) → (∀ w, (Instr.findKey kt (a.eval y) ms.toList).run P w = .ok q w) → ∀ {v : Value}, (match q with | some (_, u) => v = (if ok then .tuple #[u, .bool true] else u) | none => ∃ z, zeroV P et = some z ∧ v = (if ok then .tuple #[z, .bool false] else z)) → (execOp a.eval ⟨d, .lookup T x y ok, U, pos, af, g⟩).run P w = .ok (.value v) w := fun {q} h1 h2 {v} h3 => by
          refine run_v (s := Instr.lookup T (a.eval x) (a.eval y) ok) ?_
          unfold Instr.lookup
          rcases hget with ⟨e, rfl⟩ | ⟨b, c, e, hb⟩
          · have h2' := h2 w
            rw [e]
            simp only [Sem.run_bind, run_underlying hu, Result.andThen_ok, Sem.run_pure, h1, h2']
            cases q with
            | some p => obtain ⟨i, u⟩ := p; subst h3; simp
            | none => obtain ⟨z, hz, rfl⟩ := h3; simp [zeroV_run hz]
          · rw [e]
            simp only [Sem.run_bind, run_underlying hu, Result.andThen_ok, Sem.run_pure, run_getMap hb, h1, h2]
            cases q with
            | some p => obtain ⟨i, u⟩ := p; subst h3; simp
            | none => obtain ⟨z, hz, rfl⟩ := h3; simp [zeroV_run hz]
        split
        · rename_i i v b hf
          obtain ⟨k1, q, k2, m, _, _, rfl, k5, _⟩ := mFind_ok hck hf hk hms
          refine OpM.val (run k1 k2 rfl) ?_ r
          cases ok with
          | true => exact ⟨[m.val, .bool true], .cons k5 (.cons rfl .nil), rfl⟩
          | false => exact tv_av k5
        · rename_i hf
          obtain ⟨k1, q, k2, k3⟩ := mFind_ok hck hf hk hms
          have k3 : q = none := k3
          subst k3
          exact zeroOk_ok (fun v hv => run k1 k2 ⟨v, hv, rfl⟩) r
        · trivial
      · trivial
    · trivial
  · trivial
/-! writing -/
/-- A block's object, put anew. -/
abbrev putW (w : World) (b : Nat) (o : Obj) : World := { w with heap := w.heap.setIfInBounds b o }
theorem put_hr (r : HR F φ h w) {id b κ : Nat} {o o' : AO} {ob' : Obj} (hg : h.get id = some o) (hn : φ id = some (b, κ)) (ho : ObD F φ κ o' ob') : HR F φ (h.set o' id) (putW w b ob') := by
  obtain ⟨ob, hb, _⟩ := r.obj _ _ _ _ hg hn
  have hlt : b < w.heap.size := (Array.getElem?_eq_some_iff.1 hb).1
  refine r.upd hg hn (fun c x hc e => ?_) ?_ ho
  · show (w.heap.setIfInBounds b ob')[c]? = some x
    rw [Array.getElem?_setIfInBounds_ne (Ne.symm hc)]
    exact e
  · show (w.heap.setIfInBounds b ob')[b]? = some ob'
    rw [Array.getElem?_setIfInBounds_self_of_lt hlt]
theorem OpM.put {o : Oper} {v : AV} {u : Value} {nt : Next} {id b κ : Nat} {ao ao' : AO} {ob' : Obj} (r : HR F φ h w) (hg : h.get id = some ao) (hn : φ id = some (b, κ)) (ho : ObD F φ κ ao' ob') (e : (execOp a.eval o).run P w = .ok nt (putW w b ob')) (hnt : nt = .value u ∨ (nt = .skip ∧ u = undef)) (hu : AvD F φ v u) : OpM o a.eval F φ nx w v (h.set ao' id) nx :=
  ⟨nt, u, _, F, φ, e, hnt, hu, put_hr r hg hn ho, PH.ler _, Vl.ler _, fun _ _ => rfl, Mild.putObj w b ob'⟩
theorem mset_ok {k v : TV} {u q : Value} (hk : TvD F φ k u) (hv : TvD F φ v q) : ∀ {i : Nat} {es : List (TV × TV × Nat)} {ms : List MapEntry}, All2 (EsD F φ) es ms → All2 (EsD F φ) (mset k v i es) (ms.modify i fun e => { e with key := u, val := q })
  | i, [], ms, hm => by cases hm; cases i <;> exact .nil
  | 0, (k', v', b) :: es, ms, hm => by
    cases hm with
    | @cons _ m _ ms' m1 m2 => exact .cons ⟨hk, hv, m1.2.2⟩ m2
  | i + 1, (k', v', b) :: es, ms, hm => by
    cases hm with
    | @cons _ m _ ms' m1 m2 => exact .cons m1 (mset_ok hk hv m2)
theorem mdel_ok : ∀ {i : Nat} {es : List (TV × TV × Nat)} {ms : List MapEntry}, All2 (EsD F φ) es ms → All2 (EsD F φ) (mdel i es) (ms.eraseIdx i)
  | i, [], ms, hm => by cases hm; cases i <;> exact .nil
  | 0, (k', v', b) :: es, ms, hm => by
    cases hm with
    | @cons _ m _ ms' m1 m2 => exact m2
  | i + 1, (k', v', b) :: es, ms, hm => by
    cases hm with
    | @cons _ m _ ms' m1 m2 => exact .cons m1 (mdel_ok m2)
theorem stays {ms : Array MapEntry} {i : Nat} {u : Value} {m : MapEntry} (h1 : ms.toList[i]? = some m) (h2 : m.key = u) (h3 : Instr.sameBits 10000 u u = true) (w : World) : (Instr.keyThatStays (((ms[i]?).map (·.key)).getD u) u).run P w = .ok u w := by
  have : ms[i]? = some m := by rw [← Array.getElem?_toList]; exact h1
  rw [this]
  simp only [Option.map_some, Option.getD_some, h2]
  unfold Instr.keyThatStays
  rw [if_pos h3]
  rfl
theorem mapUpdate_ok (hx : OpOk F φ l a.eval x) (hy : OpOk F φ l a.eval y) (hz : OpOk F φ l a.eval z) (r : HR F φ h w) : SROk ⟨d, .mapUpdate T x y z, U, pos, af, g⟩ a.eval F φ h nx w (sMapUpdate T x y z l h nx) := by
  refine on3_ok hx hy hz fun v v' v'' hv hv' hv'' => ?_
  unfold oMapUpdate
  split
  · rename_i id
    split
    · rename_i es c hm
      obtain ⟨b, κ, ms, hb, e, hg, k1, k2⟩ := mapOf_id r hm hv
      split
      · rename_i kt et ht
        obtain ⟨hu, hck⟩ := tmap_ok ht
        split
        · rename_i k hk
          have hk := av_tv hk hv'
          split
          · rename_i q hq
            have hq := av_tv hq hv''
            split
            · rename_i i v0 b0 hf
              obtain ⟨c1, q, c2, m, _, c3, rfl, c5, c6, c7, c8⟩ := mFind_ok hck hf hk k2
              refine ⟨Nat.le_refl _, fun _ => OpM.put r hg hb ⟨ms.modify i fun e => { e with key := a.eval y, val := a.eval z }, rfl, by rw [Array.toList_modify]; exact mset_ok hk hq k2⟩ (run_u (s := Instr.mapUpdate T (a.eval x) (a.eval y) (a.eval z)) ?_) (.inr ⟨rfl, rfl⟩) rfl⟩
              rw [e]
              unfold Instr.mapUpdate
              have hst := stays (by simpa using c3) c7 c8 w
              simp only [Sem.run_bind, run_underlying hu, Result.andThen_ok, run_getMap k1, c1, c2]
              rw [hst]
              simp only [Result.andThen_ok, run_setMap _ k1]
            · rename_i hf
              obtain ⟨c1, q, c2, c3⟩ := mFind_ok hck hf hk k2
              have c3 : q = none := c3
              subst c3
              refine ⟨Nat.le_refl _, fun _ => OpM.put r hg hb ⟨ms.push { key := a.eval y, val := a.eval z, born := c }, rfl, by rw [Array.toList_push]; exact k2.app (.cons ⟨hk, hq, rfl⟩ .nil)⟩ (run_u (s := Instr.mapUpdate T (a.eval x) (a.eval y) (a.eval z)) ?_) (.inr ⟨rfl, rfl⟩) rfl⟩
              rw [e]
              unfold Instr.mapUpdate
              simp only [Sem.run_bind, run_underlying hu, Result.andThen_ok, run_getMap k1, c1, c2, run_setMap _ k1]
            · trivial
          · trivial
        · trivial
      · trivial
    · trivial
  · trivial
theorem mapEntry_ok (hx : OpOk F φ l a.eval x) (hy : OpOk F φ l a.eval y) (r : HR F φ h w) : SROk ⟨d, .mapEntry T x y, U, pos, af, g⟩ a.eval F φ h nx w (sMapEntry T x y l h nx) := by
  refine on2_ok hx hy fun v v' hv hv' => ?_
  unfold oMapEntry
  split
  · rename_i id
    split
    · rename_i es c hm
      obtain ⟨b, κ, ms, hb, e, hg, k1, k2⟩ := mapOf_id r hm hv
      split
      · rename_i kt et ht
        obtain ⟨hu, hck⟩ := tmap_ok ht
        split
        · rename_i k hk
          have hk := av_tv hk hv'
          split
          · rename_i i v0 b0 hf
            obtain ⟨c1, q, c2, m, _, c3, rfl, c5, c6, c7, c8⟩ := mFind_ok hck hf hk k2
            have c3' : ms.toList[i]? = some m := by simpa using c3
            have hmi : ms[i]? = some m := by rw [← Array.getElem?_toList]; exact c3'
            have hmod : (ms.modify i fun e => { e with key := a.eval y }) = ms := by
              apply Array.ext'
              rw [Array.toList_modify]
              apply List.ext_getElem?
              intro j
              rw [List.getElem?_modify]
              by_cases hij : i = j
              · subst hij; rw [c3', ← c7]; simp
              · simp [hij]
            have hput := put_hr r hg hb (o' := .map es c) (ob' := .map ms c) ⟨ms, rfl, k2⟩
            refine ⟨.value (.tuple #[m.val, goInt b0]), .tuple #[m.val, goInt b0], putW w b (.map ms c), F, φ, run_v (s := Instr.mapEntry T (a.eval x) (a.eval y)) ?_, .inl rfl, ⟨[m.val, goInt b0], .cons c5 (.cons rfl .nil), rfl⟩, hput.sub (fun n o ho => ?_), PH.ler _, Vl.ler _, fun _ _ => rfl, Mild.putObj w b _⟩
            · rw [e]
              unfold Instr.mapEntry
              have hst := stays c3' c7 c8 w
              simp only [Sem.run_bind, run_underlying hu, Result.andThen_ok, run_getMap k1, c1, c2]
              rw [hst]
              simp only [Result.andThen_ok, run_setMap _ k1, hmod, Sem.run_pure, hmi, Option.map_some, Option.getD_some, c6]
            · rw [Hp.get_set]
              by_cases hn : n = id
              · subst hn; rw [if_pos rfl, ← ho, hg]
              · rw [if_neg hn]; exact ho
          · rename_i hf
            obtain ⟨c1, q, c2, c3⟩ := mFind_ok hck hf hk k2
            have c3 : q = none := c3
            subst c3
            split
            · rename_i z0 hz0
              obtain ⟨zv, hz1, hz2⟩ := zeroTV_ok (F := F) (φ := φ) hz0
              refine ⟨Nat.le_refl _, fun _ => OpM.put r hg hb ⟨ms.push { key := a.eval y, val := zv, born := c }, rfl, by rw [Array.toList_push]; exact k2.app (.cons ⟨hk, hz2, rfl⟩ .nil)⟩ (run_v (s := Instr.mapEntry T (a.eval x) (a.eval y)) (v := .tuple #[zv, goInt c]) ?_) (.inl rfl) ⟨[zv, goInt c], .cons hz2 (.cons rfl .nil), rfl⟩⟩
              rw [e]
              unfold Instr.mapEntry
              simp only [Sem.run_bind, run_underlying hu, Result.andThen_ok, run_getMap k1, c1, c2, zeroV_run hz1, run_setMap _ k1, Sem.run_pure]
            · trivial
          · trivial
        · trivial
      · trivial
    · trivial
  · trivial
theorem mstamp_ok {v : TV} {q : Value} (hv : TvD F φ v q) {s : Nat} : ∀ {es es' : List (TV × TV × Nat)} {ms : List MapEntry}, mstamp v s es = some es' → All2 (EsD F φ) es ms → ∃ i, ms.findIdx? (fun e => (e.born : Int) == (s : Int)) = some i ∧ All2 (EsD F φ) es' (ms.modify i fun e => { e with val := q })
  | [], es', ms, h, hm => by cases h
  | (k', v', b) :: es, es', ms, h, hm => by
    cases hm with
    | @cons _ m _ ms' m1 m2 =>
    obtain ⟨a1, a2, a3⟩ := m1
    have a3 : m.born = b := a3
    unfold mstamp at h
    split at h
    · rename_i hb
      have hb := Nat.eq_of_beq_eq_true hb
      cases h
      refine ⟨0, ?_, .cons ⟨a1, hv, a3⟩ m2⟩
      rw [List.findIdx?_cons]
      have : ((m.born : Int) == (s : Int)) = true := by rw [a3, hb]; simp
      rw [this]; rfl
    · rename_i hb
      have hb := Nat.ne_of_beq_eq_false hb
      cases hr : mstamp v s es with
      | none => rw [hr] at h; cases h
      | some es2 =>
        rw [hr] at h; cases h
        obtain ⟨i, h1, h2⟩ := mstamp_ok hv hr m2
        refine ⟨i + 1, ?_, .cons ⟨a1, a2, a3⟩ h2⟩
        rw [List.findIdx?_cons]
        have : ((m.born : Int) == (s : Int)) = false := by
          rw [beq_eq_false_iff_ne]; intro e; exact hb (by omega)
        rw [this, h1]; rfl
theorem entryStore_ok (hx : OpOk F φ l a.eval x) (hy : OpOk F φ l a.eval y) (hz : OpOk F φ l a.eval z) (r : HR F φ h w) : SROk ⟨d, .entryStore T x y z, U, pos, af, g⟩ a.eval F φ h nx w (sEntryStore T x y z l h nx) := by
  refine on3_ok hx hy hz fun v v' v'' hv hv' hv'' => ?_
  unfold oEntryStore
  split
  · rename_i id es c s q hs hq hm
    obtain ⟨b, κ, ms, hb, e, hg, k1, k2⟩ := mapOf_id r hm hv
    obtain ⟨k, eqs⟩ := natOf_ok hs hv'
    have hq := av_tv hq hv''
    split
    · rename_i es' he
      obtain ⟨i, h1, h2⟩ := mstamp_ok hq he k2
      refine ⟨Nat.le_refl _, fun _ => OpM.put r hg hb ⟨ms.modify i fun e => { e with val := a.eval z }, rfl, by rw [Array.toList_modify]; exact h2⟩ (run_u (s := Instr.entryStore T (a.eval x) (a.eval y) (a.eval z)) ?_) (.inr ⟨rfl, rfl⟩) rfl⟩
      rw [e, eqs]
      unfold Instr.entryStore
      have h1' : ms.findIdx? (fun e => (e.born : Int) == (s : Int)) = some i := by rw [← List.findIdx?_toArray, Array.toArray_toList] at h1; exact h1
      simp [run_getMap k1, asInt, asIntOf, h1', run_setMap _ k1]
    · trivial
  · trivial
end
end Go.Proofs.YtjjjckmpkldgnaaGreatDoor.Rk
