/-
  The functions that the reckoner takes whole: readers. Plain theorems; no condition.
  A run cut in parts: from one state, told by what it needs, to the next. Plain theorems; no condition.
-/
import Derived.Test.YtjjjckmpkldgnaaGreatDoorUac
namespace Go.Proofs.YtjjjckmpkldgnaaGreatDoor
open Go.RowKit
set_option maxRecDepth 100000
/-- Read, with what it owns. -/
theorem read_own (v : Value) (bs : List UInt8) (F : PH) (h : Byt F v bs) (hn : bs.length ≤ 1099511627776) :
    Spec Tryz.prog 194 [v] F [] fun u F' H' => F = F' ∧ ∃ b v', u = .pointer (some ⟨b, 0, none⟩) ∧ H' = [rdr b v' 0, bytes v' bs] := by
  obtain ⟨a, c, rfl, hc⟩ := h.form
  refine Spec.of1 Tryz.func194 rfl rfl fun X w0 => ?_
  repeat (first|refine zJ rfl rfl ?_|refine jr rfl ?_|refine jn ?_|refine zM rfl rfl ?_|(refine zC rfl rfl ?_ rfl ?_;omega)|(refine zD rfl rfl ?_ rfl ?_;omega)|(refine zP rfl ?_ rfl ?_;omega)|refine zG rfl rfl rfl rfl ?_|(refine jdq rfl rfl ?_ ?_ ?_;kernel_rfl;kernel_rfl)|refine zB rfl rfl rfl (by repeat constructor) rfl ?_|refine zH .here rfl rfl rfl rfl ?_|refine zH (.there .here) rfl rfl rfl rfl ?_|refine zH (.there (.there .here)) rfl rfl rfl rfl ?_)
  refine oC (Hc := []) (Hr := X) (clone_spec a c bs F h hn) Tryz.call46 rfl rfl (fun _ s => s) ?_
  rintro u _ _ _ ⟨rfl, _, rfl⟩
  refine oOwn (.here) fun a' c' hu hc' _ _ => ?_
  subst hu
  repeat (first|refine zJ rfl rfl ?_|refine jr rfl ?_|refine jn ?_|refine zM rfl rfl ?_|(refine zC rfl rfl ?_ rfl ?_;omega)|(refine zD rfl rfl ?_ rfl ?_;omega)|(refine zP rfl ?_ rfl ?_;omega)|refine zG rfl rfl rfl rfl ?_|(refine jdq rfl rfl ?_ ?_ ?_;kernel_rfl;kernel_rfl)|refine zB rfl rfl rfl (by repeat constructor) rfl ?_|refine zH .here rfl rfl rfl rfl ?_|refine zH (.there .here) rfl rfl rfl rfl ?_|refine zH (.there (.there .here)) rfl rfl rfl rfl ?_)
  refine oE (ev_box rfl .agg) rfl ?_; rintro _ _ _ _ ⟨rfl, b, rfl, rfl⟩
  repeat (first|refine zJ rfl rfl ?_|refine jr rfl ?_|refine jn ?_|refine zM rfl rfl ?_|(refine zC rfl rfl ?_ rfl ?_;omega)|(refine zD rfl rfl ?_ rfl ?_;omega)|(refine zP rfl ?_ rfl ?_;omega)|refine zG rfl rfl rfl rfl ?_|(refine jdq rfl rfl ?_ ?_ ?_;kernel_rfl;kernel_rfl)|refine zB rfl rfl rfl (by repeat constructor) rfl ?_|refine zH .here rfl rfl rfl rfl ?_|refine zH (.there .here) rfl rfl rfl rfl ?_|refine zH (.there (.there .here)) rfl rfl rfl rfl ?_)
  exact J_ret1 rfl rfl [rdr b _ 0, bytes _ bs] rfl (PH.ler _) ⟨rfl, b, _, rfl, rfl⟩
end Go.Proofs.YtjjjckmpkldgnaaGreatDoor
namespace Go.Proofs.YtjjjckmpkldgnaaGreatDoor.Rk
open Go.RowKit
set_option maxRecDepth 100000
section
variable {F G : PH} {φ : Vl} {h : Hp} {nx : Nat} {w w' : World}
/-- A new number for a block that no other number has. -/
theorem HR.new' (r : HR F φ h w) {n b κ : Nat} {o : AO} {ob : Obj} (hn : φ n = none) (hb : ∀ m o κ, h.get m = some o → φ m ≠ some (b, κ)) (hF : F b = none) (h1 : ph w b = some ob) (ho : ObD F (φ.put n (b, κ)) κ o ob) : HR F (φ.put n (b, κ)) (h.set o n) w where
  obj := fun m o' c κ' e1 e2 => by
    rw [Hp.get_set] at e1
    by_cases e : m = n
    · subst e
      rw [if_pos rfl] at e1
      cases e1
      rw [Vl.put_self] at e2
      cases e2
      exact ⟨ob, h1, ho⟩
    · rw [if_neg e] at e1
      rw [Vl.put_other _ _ e] at e2
      obtain ⟨ob', a, c'⟩ := r.obj m o' c κ' e1 e2
      exact ⟨ob', a, c'.mono (PH.ler _) (Vl.le_put hn)⟩
  inj := fun m m' o1 o2 c κ1 κ2 e1 e2 e3 e4 => by
    rw [Hp.get_set] at e1 e2
    by_cases a : m = n <;> by_cases a' : m' = n
    · rw [a, a']
    · subst a
      rw [Vl.put_self] at e3
      cases e3
      rw [if_neg a'] at e2
      rw [Vl.put_other _ _ a'] at e4
      exact absurd e4 (hb _ _ _ e2)
    · subst a'
      rw [Vl.put_self] at e4
      cases e4
      rw [if_neg a] at e1
      rw [Vl.put_other _ _ a] at e3
      exact absurd e3 (hb _ _ _ e1)
    · rw [if_neg a] at e1
      rw [if_neg a'] at e2
      rw [Vl.put_other _ _ a] at e3
      rw [Vl.put_other _ _ a'] at e4
      exact r.inj m m' o1 o2 c κ1 κ2 e1 e2 e3 e4
  fr := r.fr
  dj := fun m o' c κ' e1 e2 => by
    rw [Hp.get_set] at e1
    by_cases e : m = n
    · subst e
      rw [Vl.put_self] at e2
      cases e2
      exact hF
    · rw [if_neg e] at e1
      rw [Vl.put_other _ _ e] at e2
      exact r.dj m o' c κ' e1 e2
theorem bRead_ok {args : List AV} {us : Array Value} {v : AV} {h' : Hp} {nx' : Nat} (r : HR F φ h w) (hu : All2 (AvD F φ) args us.toList) (hfr : ∀ n, nx ≤ n → φ n = none) (e : bRead args h nx = some (v, h', nx')) : BOut 194 us F φ nx w v h' nx' := by
  unfold bRead at e
  split at e
  · rename_i x
    obtain ⟨p, hp, e⟩ := Option.map_eq_some_iff.1 e
    obtain ⟨m, s⟩ := p
    cases e
    generalize hul : us.toList = ul at hu
    cases hu with
    | @cons _ u1 _ _ h1 t1 =>
      cases t1
      obtain ⟨b1, b2, a, c, hu1, b3, b4⟩ := bytesA_ok r hp h1
      rw [arr_of hul]
      intro cs
      have sp := read_own u1 (unp m s) (ph w) b4 (by rw [unp_len]; omega)
      obtain ⟨fr, w', u, F', H', s1, s2, s3, ⟨e1, b, v', e2, e3⟩, s5, s6⟩ := spec_steps (X := []) sp (Sat.nil w) cs
      subst e1 e2 e3
      obtain ⟨h1, k1, k2, k3⟩ := Sat.persist s6
      obtain ⟨h2, l1, l2, l3⟩ := Sat.persist k3
      have k1 : h1 = PH.one b (.cells #[v', .int .i64 0] tyReader (0, 0)) := k1
      subst k1
      have hle := l3.le
      have hb0 : ph w b = none := by
        rcases k2 b with h | h
        · exact h
        · rw [PH.one_self] at h; cases h
      have hb2 : h2 b = none := by
        rcases l2 b with h | h
        · rw [show ((ph w).un (PH.one b (.cells #[v', .int .i64 0] tyReader (0, 0)))) b = some (.cells #[v', .int .i64 0] tyReader (0, 0)) from PH.le_r k2 _ _ (PH.one_self ..)] at h; cases h
        · exact h
      have hF2 : F.dj h2 := l2.mono (r.fr.trans (PH.le_l _ _))
      have hw2 : (ph w).dj h2 := l2.mono (PH.le_l _ _)
      have hF0 : F b = none := by
        cases hq : F b with
        | none => rfl
        | some y => have := r.fr b y hq; rw [hb0] at this; cases this
      have hww : (ph w).le (ph w') := (PH.le_l _ _).trans ((PH.le_l _ _).trans hle)
      have hb1 : ph w' b = some (.cells #[v', .int .i64 0] tyReader (0, 0)) := hle _ _ (PH.le_l _ _ _ _ (PH.le_r k2 _ _ (PH.one_self ..)))
      have r1 : HR (F.un h2) φ h w' := r.keep hww (PH.le_l _ _) (PH.un_le (r.fr.trans hww) ((PH.le_r l2).trans hle)) fun c x hc hn => by
        rcases hw2 c with h | h
        · exact h
        · unfold PH.un at hc
          rw [hn, h] at hc; cases hc
      have hnx : φ nx = none := hfr nx (Nat.le_refl _)
      have hby : Byt (F.un h2) v' (unp m s) := bytes_byt l1 hF2
      have r2 := r1.new' (n := nx) (b := b) (κ := 0) (o := .cells tyReader [.pby m s, .int .i64 0]) hnx (fun q o κ hq hφ => by
        obtain ⟨ob, h, _⟩ := r.obj q o b κ hq hφ
        rw [hb0] at h; cases h) (by unfold PH.un; rw [hF0, hb2]; rfl) hb1 ⟨[v', .int .i64 0], .cons hby (.cons rfl .nil), rfl⟩
      exact ⟨fr, w', _, F.un h2, φ.put nx (b, 0), s1, s2, ⟨b, 0, Vl.put_self .., rfl⟩, r2, PH.le_l _ _, Vl.le_put hnx, fun n hn => Vl.put_other _ _ (by omega), fun n hn => by rw [Vl.put_other _ _ (by omega)]; exact hfr n (by omega), s5, Nat.le_succ _⟩
  · cases e
/-- A reader, and all beside it. -/
theorem rdr_sat (r : HR F φ h w) {id b κ : Nat} {o : AO} {ob : Obj} (hg : h.get id = some o) (hn : φ id = some (b, κ)) (hb : ph w b = some ob) : Sat F [fun h1 => h1 = PH.one b ob, fun h1 => h1 = fun c => if c = b ∨ (F c).isSome = true then none else ph w c] w := by
  have hF := r.dj id o b κ hg hn
  have d1 : (PH.one b ob).dj (fun c => if c = b ∨ (F c).isSome = true then none else ph w c) := fun c => by
    by_cases e : c = b
    · right
      show (if c = b ∨ (F c).isSome = true then none else ph w c) = none
      rw [if_pos (.inl e)]
    · left; unfold PH.one; rw [if_neg e]
  have d2 : F.dj (PH.one b ob) := PH.dj_one hF
  have d3 : F.dj (fun c => if c = b ∨ (F c).isSome = true then none else ph w c) := fun c => by
    cases hc : F c with
    | none => exact .inl rfl
    | some y =>
      right
      show (if c = b ∨ (F c).isSome = true then none else ph w c) = none
      rw [if_pos (.inr (by rw [hc]; rfl))]
  refine ⟨(PH.one b ob).un ((fun c => if c = b ∨ (F c).isSome = true then none else ph w c)), ⟨_, _, rfl, ⟨_, PH.emp, rfl, rfl, PH.dj_emp _, (PH.un_emp _).symm⟩, d1, rfl⟩, PH.dj_un_r d2 d3, PH.un_le r.fr (PH.un_le (PH.one_le hb) fun c x hx => ?_)⟩
  split at hx
  · cases hx
  · exact hx
theorem rdr_hr (r : HR F φ h w) {id b κ : Nat} {o o' : AO} {ob' : Obj} (hg : h.get id = some o) (hn : φ id = some (b, κ)) (hF : F.le G) (s : Sat G [fun h1 => h1 = PH.one b ob', fun h1 => h1 = fun c => if c = b ∨ (F c).isSome = true then none else ph w c] w') (ho : ObD G φ κ o' ob') : HR G φ (h.set o' id) w' := by
  obtain ⟨h1, k1, k2, k3⟩ := Sat.persist s
  obtain ⟨h2, l1, l2, l3⟩ := Sat.persist k3
  have k1 : h1 = PH.one b ob' := k1
  have l1 : h2 = fun c => if c = b ∨ (F c).isSome = true then none else ph w c := l1
  subst k1 l1
  have hle := l3.le
  have hbw : ph w' b = some ob' := hle _ _ (PH.le_l _ _ _ _ (PH.le_r k2 _ _ (PH.one_self ..)))
  have key : ∀ m o2 c κ', (h.set o' id).get m = some o2 → φ m = some (c, κ') → (m = id ∧ o2 = o' ∧ c = b ∧ κ' = κ) ∨ (m ≠ id ∧ h.get m = some o2 ∧ c ≠ b ∧ F c = none) := fun m o2 c κ' e1 e2 => by
    rw [Hp.get_set] at e1
    by_cases e : m = id
    · subst e
      rw [if_pos rfl] at e1
      cases e1
      rw [hn] at e2
      cases e2
      exact .inl ⟨rfl, rfl, rfl, rfl⟩
    · rw [if_neg e] at e1
      exact .inr ⟨e, e1, fun hc => e (by subst hc; exact r.inj m id o2 o c κ' κ e1 hg e2 hn), r.dj m o2 c κ' e1 e2⟩
  have rest : ∀ c x, c ≠ b → F c = none → ph w c = some x → G c = none ∧ ph w' c = some x := fun c x h1 h2 h3 => by
    have hr : (fun c => if c = b ∨ (F c).isSome = true then none else ph w c : PH) c = some x := by
      show (if c = b ∨ (F c).isSome = true then none else ph w c) = some x
      rw [if_neg (by rw [h2]; simp [h1])]; exact h3
    refine ⟨?_, hle _ _ (PH.le_r l2 _ _ hr)⟩
    rcases l2 c with h | h
    · cases hG : G c with
      | none => rfl
      | some y => rw [PH.le_l _ _ c y hG] at h; cases h
    · rw [hr] at h; cases h
  refine ⟨fun m o2 c κ' e1 e2 => ?_, fun m m' o1 o2 c κ1 κ2 e1 e2 e3 e4 => ?_, (PH.le_l _ _).trans ((PH.le_l _ _).trans hle), fun m o2 c κ' e1 e2 => ?_⟩
  · rcases key m o2 c κ' e1 e2 with ⟨rfl, rfl, rfl, rfl⟩ | ⟨h1, h2, h3, h4⟩
    · exact ⟨ob', hbw, ho⟩
    · obtain ⟨ob2, q1, q2⟩ := r.obj m o2 c κ' h2 e2
      exact ⟨ob2, (rest c ob2 h3 h4 q1).2, q2.mono hF (Vl.ler _)⟩
  · rcases key m o1 c κ1 e1 e3 with ⟨rfl, _, h, _⟩ | ⟨h1, h2, h3, _⟩
    · rcases key m' o2 c κ2 e2 e4 with ⟨rfl, _⟩ | ⟨_, _, h', _⟩
      · rfl
      · exact absurd h h'
    · rcases key m' o2 c κ2 e2 e4 with ⟨_, _, h, _⟩ | ⟨_, h2', _, _⟩
      · exact absurd h h3
      · exact r.inj m m' o1 o2 c κ1 κ2 h2 h2' e3 e4
  · rcases key m o2 c κ' e1 e2 with ⟨_, _, rfl, _⟩ | ⟨h1, h2, h3, h4⟩
    · rcases k2 c with h | h
      · exact h
      · rw [PH.one_self] at h; cases h
    · obtain ⟨ob2, q1, _⟩ := r.obj m o2 c κ' h2 e2
      exact (rest c ob2 h3 h4 q1).1
theorem fixX_ok {e n : Int} {m x : Nat} {p : Nat × Nat} {e' : Int} {q : Nat × Nat} (h : fixX e (m, x) n = (p, e', q)) : fixR e (unp m x) n = (unp p.1 p.2, e', unp q.1 q.2) := by
  unfold fixX at h
  unfold fixR
  split at h
  · rename_i he
    have he := ieq_ok he
    subst he
    rw [if_neg (by simp)]
    split at h
    · rename_i k
      split at h
      · rename_i hle
        have hle := Nat.le_of_ble_eq_true hle
        dsimp only at hle
        cases h
        rw [if_neg (by rw [unp_len]; simp; omega)]
        have hk : (Int.ofNat k).toNat = k := rfl
        rw [hk]
        obtain ⟨d, rfl⟩ : ∃ d, m = k + d := ⟨m - k, by omega⟩
        have e1 : k + d - k = d := by omega
        dsimp only
        rw [e1, unp_take, unp_drop, unp_mod]
      · rename_i hle
        cases h
        rw [if_pos]
        · rfl
        · right
          rw [unp_len]
          have : ¬ k ≤ m := fun h => by rw [Nat.ble_eq_true_of_le h] at hle; cases hle
          simp; omega
    · cases h
      rw [if_pos (.inl (by omega))]
      rfl
  · rename_i he
    cases h
    rw [if_pos]
    · rfl
    · intro h0
      subst h0
      cases he
theorem numB_unp : ∀ (n x : Nat), numB (unp n x) = x % 256 ^ n
  | 0, x => by simp [unp, numB, Nat.mod_one]
  | n + 1, x => by
    rw [unp_snoc, numB_snoc, numB_unp n (x / 256), UInt8.toNat_ofNat']
    have : x % 256 ^ (n + 1) = x / 256 % 256 ^ n * 256 + x % 256 := by
      rw [Nat.pow_succ, Nat.mul_comm (256 ^ n) 256, Nat.mod_mul]
      omega
    rw [this]
theorem sizeI_eq (n : Int) : sizeI n = sizeB n := by
  cases n with
  | ofNat k =>
    show sizeB8 k = _
    unfold sizeB8 sizeB
    have : ∀ a : Nat, Nat.beq k a = decide ((Int.ofNat k) = (a : Int)) := fun a => by
      cases hb : Nat.beq k a with
      | true =>
        have := Nat.eq_of_beq_eq_true hb
        subst this
        exact (decide_eq_true rfl).symm
      | false =>
        symm
        refine decide_eq_false fun e => ?_
        have : k = a := Int.ofNat.inj e
        subst this
        rw [Nat.beq_refl] at hb; cases hb
    rw [this 1, this 2, this 4, this 8]
    rfl
  | negSucc k =>
    show false = _
    unfold sizeB
    simp
theorem bFixed_ok {args : List AV} {us : Array Value} {v : AV} {h' : Hp} {nx' : Nat} (r : HR F φ h w) (hu : All2 (AvD F φ) args us.toList) (hfr : ∀ n, nx ≤ n → φ n = none) (e : bFixed args h nx = some (v, h', nx')) : BOut 266 us F φ nx w v h' nx' := by
  unfold bFixed at e
  split at e
  · rename_i id n
    split at e
    · rename_i E m x er hg
      split at e
      · rename_i hc
        rw [Bool.and_eq_true] at hc
        have hE : E = tyReader := Nat.eq_of_beq_eq_true hc.1
        have hm := Nat.le_of_ble_eq_true hc.2
        subst hE
        split at e
        rename_i p e1 q hx
        cases e
        generalize hul : us.toList = ul at hu
        cases hu with
        | @cons _ u1 _ _ h1 t1 => cases t1 with
          | @cons _ u2 _ _ h2 t2 =>
            cases t2
            obtain ⟨b, κ, hb, rfl⟩ := h1
            have h2 : u2 = .int .i64 n := h2
            subst h2
            obtain ⟨ob, hw, vs, ha, rfl⟩ := r.obj _ _ _ _ hg hb
            cases ha with
            | @cons _ v1 _ _ a1 a2 => cases a2 with
              | @cons _ v2 _ _ a2 a3 =>
                cases a3
                have a2 : v2 = .int .i64 er := a2
                subst a2
                have a1 : Byt F v1 (unp m x) := a1
                rw [arr_of hul]
                intro cs
                have sp := fixed_spec b v1 er n (unp m x) F a1 (by rw [unp_len]; omega)
                rw [fixX_ok hx] at sp
                obtain ⟨fr, w', u, F', H', s1, s2, s3, ⟨v', q1, q2, q3⟩, s5, s6⟩ := spec_steps (X := [_]) sp (rdr_sat r hg hb hw) cs
                subst q3
                exact ⟨fr, w', u, F', φ, s1, s2, q1, rdr_hr r hg hb s3 s6 ⟨[v', .int .i64 e1], .cons q2 (.cons rfl .nil), rfl⟩, s3, Vl.ler _, fun _ _ => rfl, hfr, s5, Nat.le_refl _⟩
      · cases e
    · cases e
  · cases e
theorem bNumber_ok {args : List AV} {us : Array Value} {v : AV} {h' : Hp} {nx' : Nat} (r : HR F φ h w) (hu : All2 (AvD F φ) args us.toList) (hfr : ∀ n, nx ≤ n → φ n = none) (e : bNumber args h nx = some (v, h', nx')) : BOut 265 us F φ nx w v h' nx' := by
  unfold bNumber at e
  split at e
  · rename_i id n
    split at e
    · rename_i E m x er hg
      split at e
      · rename_i hc
        rw [Bool.and_eq_true] at hc
        have hE : E = tyReader := Nat.eq_of_beq_eq_true hc.1
        have hm := Nat.le_of_ble_eq_true hc.2
        subst hE
        split at e
        rename_i p e1 q hx
        cases e
        generalize hul : us.toList = ul at hu
        cases hu with
        | @cons _ u1 _ _ h1 t1 => cases t1 with
          | @cons _ u2 _ _ h2 t2 =>
            cases t2
            obtain ⟨b, κ, hb, rfl⟩ := h1
            have h2 : u2 = .int .i64 n := h2
            subst h2
            obtain ⟨ob, hw, vs, ha, rfl⟩ := r.obj _ _ _ _ hg hb
            cases ha with
            | @cons _ v1 _ _ a1 a2 => cases a2 with
              | @cons _ v2 _ _ a2 a3 =>
                cases a3
                have a2 : v2 = .int .i64 er := a2
                subst a2
                have a1 : Byt F v1 (unp m x) := a1
                rw [arr_of hul]
                intro cs
                have sp := number_spec b v1 er n (unp m x) F a1 (by rw [unp_len]; omega)
                have hr : numR er (unp m x) n = (p.2 % 256 ^ p.1, e1, unp q.1 q.2) := by
                  show (numB (fixR (if er = 0 ∧ sizeB n = false then 2 else er) (unp m x) n).1, (fixR (if er = 0 ∧ sizeB n = false then 2 else er) (unp m x) n).2) = _
                  have he : (if er = 0 ∧ sizeB n = false then 2 else er) = (match ieq er 0 && !sizeI n with | true => 2 | false => er) := by
                    rw [sizeI_eq]
                    by_cases h0 : er = 0
                    · subst h0
                      cases sizeB n <;> rfl
                    · rw [if_neg (fun h => h0 h.1)]
                      have : ieq er 0 = false := by
                        cases hq : ieq er 0 with
                        | false => rfl
                        | true => exact absurd (ieq_ok hq) h0
                      rw [this]
                      rfl
                  have hfx : fixR (if er = 0 ∧ sizeB n = false then 2 else er) (unp m x) n = (unp p.1 p.2, e1, unp q.1 q.2) := by
                    rw [he]; exact fixX_ok hx
                  rw [hfx]
                  show (numB (unp p.1 p.2), _) = _
                  rw [numB_unp]
                rw [hr] at sp
                obtain ⟨fr, w', u, F', H', s1, s2, s3, ⟨v', q1, q2, q3⟩, s5, s6⟩ := spec_steps (X := [_]) sp (rdr_sat r hg hb hw) cs
                subst q3
                exact ⟨fr, w', u, F', φ, s1, s2, q1, rdr_hr r hg hb s3 s6 ⟨[v', .int .i64 e1], .cons q2 (.cons rfl .nil), rfl⟩, s3, Vl.ler _, fun _ _ => rfl, hfr, s5, Nat.le_refl _⟩
      · cases e
    · cases e
  · cases e
theorem built_ok : BuiltOk := by
  intro f m args us F φ h nx w v h' nx' hk r hu hfr e
  unfold kindOf at hk
  split at hk
  · cases hk
  · split at hk
    · rename_i h2
      have h2 := Nat.eq_of_beq_eq_true h2
      subst h2
      cases hk
      exact bPut_ok r hu hfr e
    · split at hk
      · rename_i h2
        have h2 := Nat.eq_of_beq_eq_true h2
        subst h2
        cases hk
        exact bRow_ok r hu hfr e
      · split at hk
        · rename_i h2
          have h2 := Nat.eq_of_beq_eq_true h2
          subst h2
          cases hk
          exact bRead_ok r hu hfr e
        · split at hk
          · rename_i h2
            have h2 := Nat.eq_of_beq_eq_true h2
            subst h2
            cases hk
            exact bFixed_ok r hu hfr e
          · split at hk
            · rename_i h2
              have h2 := Nat.eq_of_beq_eq_true h2
              subst h2
              cases hk
              exact bNumber_ok r hu hfr e
            · split at hk
              · rename_i h2
                have h2 := Nat.eq_of_beq_eq_true h2
                subst h2
                cases hk
                exact bClone_ok r hu hfr e
              · cases hk
theorem run_all (n : Nat) : KtOk (run n) := run_ok built_ok n
end
end Go.Proofs.YtjjjckmpkldgnaaGreatDoor.Rk
namespace Go.Proofs.YtjjjckmpkldgnaaGreatDoor.Rk
open Go.RowKit
set_option maxRecDepth 100000
/-! parts of code, by their places -/
noncomputable def sub : List Nat → Code → Code
  | [], c => c
  | n :: r, c => match c with
    | .seq a b => match n with
      | 0 => sub r a
      | _ => sub r b
    | .cond _ a b => match n with
      | 0 => sub r a
      | _ => sub r b
    | .block _ a => sub r a
    | .loop a => sub r a
    | .rangeFunc _ _ a b => match n with
      | 0 => sub r a
      | _ => sub r b
    | c => c
noncomputable def opsOf : Code → List Oper
  | .region _ ops _ => ops.toList
  | _ => []
noncomputable def linAt (p : List Nat) (f : FuncId) (n : Nat) : AI := .lin (opsOf (sub p (bodyOf f))) (ldrop (opsOf (sub p (bodyOf f))) n)
noncomputable def codeAt (p : List Nat) (f : FuncId) : AI := .code (sub p (bodyOf f))
noncomputable def loopAt (p : List Nat) (f : FuncId) : AI := .inLoop (sub p (bodyOf f))
/-! states, told -/
/-- What is left, of the frame at work and of those that wait. -/
abbrev Skel := FuncId × List AI × List (FuncId × Option Nat × List AI)
abbrev EnvT := List (Nat × AV)
abbrev HpT := List (Nat × AO)
noncomputable def envOf : EnvT → Env
  | [] => .nil
  | (i, v) :: r => (envOf r).set v i
noncomputable def hpT : HpT → Tr AO
  | [] => .nil
  | (n, o) :: r => (hpT r).set o n
noncomputable def stkOf : List (FuncId × Option Nat × List AI) → List EnvT → List Fr
  | [], _ => []
  | (f, d, k) :: r, es => match es with
    | [] => ⟨f, .nil, d, k, none, []⟩ :: stkOf r []
    | e :: es => ⟨f, envOf e, d, k, none, []⟩ :: stkOf r es
noncomputable def stOf (K : Skel) (e : EnvT) (es : List EnvT) (h : HpT) (nx : Nat) : St := ⟨K.2.1, envOf e, ⟨hpT h, .nil⟩, nx, ⟨K.1, none, [], stkOf K.2.2 es, 0⟩⟩
noncomputable def covE (l : Env) : EnvT → Bool
  | [] => true
  | (i, v) :: r => match l.get i with
    | some u => avEq u v && covE l r
    | none => false
noncomputable def covH (h : Hp) : HpT → Bool
  | [] => true
  | (n, o) :: r => match h.get n with
    | some p => aoEq p o && covH h r
    | none => false
noncomputable def isNone' {α : Type} : Option α → Bool
  | none => true
  | some _ => false
noncomputable def isNil' {α : Type} : List α → Bool
  | [] => true
  | _ :: _ => false
noncomputable def covS : List Fr → List EnvT → Bool
  | [], es => isNil' es
  | fr :: r, es => match es with
    | [] => false
    | e :: es => isNone' fr.ro && (isNil' fr.df && (covE fr.l e && covS r es))
noncomputable def skS : List Fr → List (FuncId × Option Nat × List AI)
  | [] => []
  | fr :: r => (fr.f, fr.dst, fr.k) :: skS r
noncomputable def sk (s : St) : Skel := (s.c.f, s.k, skS s.c.stk)
noncomputable def cov (s : St) (e : EnvT) (es : List EnvT) (h : HpT) (nx : Nat) : Bool := isNone' s.c.ro && (isNil' s.c.df && (Nat.beq s.nx nx && (covE s.l e && (covS s.c.stk es && covH s.h h))))
noncomputable def look (r : Res) (e : EnvT) (es : List EnvT) (h : HpT) (nx : Nat) : Option (Skel × Bool) := match r with
  | .at s => some (sk s, cov s e es h nx)
  | _ => none
noncomputable def runS (n : Nat) (s : St) : Res := run n s.k s.l s.h s.nx s.c
/-- It ends with true. -/
noncomputable def endsT (r : Res) : Bool := match r with
  | .done (.s (.bool b)) _ _ => b
  | _ => false
def Fin (B : Base) (m : Machine) : Prop := ∃ fr w, Steps P m (lone fr B.cs w) ∧ fr.leaving P w (.returned (.bool true)) ∧ fr.fn = B.f ∧ Mild B.w w ∧ B.F.le (ph w)
def Good (s : St) : Prop := ∀ B m, Rel B s.k s.l s.h s.nx s.c m → Fin B m
/-! less is told -/
def EnvSub (l' l : Env) : Prop := ∀ t v, l'.get t = some v → l.get t = some v
theorem envOf_get : ∀ (e : EnvT) (l : Env), covE l e = true → EnvSub (envOf e) l
  | [], _, _ => fun t v h => by cases h
  | (i, x) :: r, l, h => by
    unfold covE at h
    split at h
    · rename_i u hu
      rw [Bool.and_eq_true] at h
      have e := avEq_ok h.1
      subst e
      intro t v ht
      unfold envOf at ht
      rw [Tr.get_set] at ht
      split at ht
      · rename_i e; subst e; cases ht; exact hu
      · exact envOf_get r l h.2 t v ht
    · cases h
theorem hpT_get : ∀ (e : HpT) (h : Hp), covH h e = true → ∀ n o, (hpT e).get n = some o → h.get n = some o
  | [], _, _, n, o, h => by cases h
  | (i, x) :: r, hp, h, n, o, hn => by
    unfold covH at h
    split at h
    · rename_i u hu
      rw [Bool.and_eq_true] at h
      have e := aoEq_ok h.1
      subst e
      unfold hpT at hn
      rw [Tr.get_set] at hn
      split at hn
      · rename_i e; subst e; cases hn; exact hu
      · exact hpT_get r hp h.2 n o hn
    · cases h
section
variable {F : PH} {φ : Vl} {nb nx N : Nat} {l l' : Env} {a : Act} {dst : Option Nat} {k : List AI} {t : List Item}
theorem EnvOk.less (e : EnvOk F φ l a) (s : EnvSub l' l) : EnvOk F φ l' a := fun t v h => e t v (s t v h)
theorem rsvOf_sub (s : EnvSub l' l) {p : POp} {n : Nat} (h : rsvOf l' p = some n) : rsvOf l p = some n := by
  unfold rsvOf at h
  split at h
  · rename_i hal
    split at h
    · rename_i d hd
      split at h
      · rename_i v hv
        unfold rsvOf
        rw [hal]
        dsimp only
        rw [hd]
        dsimp only
        rw [s d v hv]
        exact h
      · cases h
    · cases h
  · cases h
theorem AnyI.less' {ops : Array Oper} {es rs : List POp} {K K' : Nat} {D : Array Bool} {sch : List Nat} (I : AnyI ops es rs K K' D sch F φ nb nx l a) (s : EnvSub l' l) : AnyI ops es rs K K' D sch F φ nb nx l' a :=
  ⟨I.reg, I.dyn, I.sch, fun t v h1 h2 => I.env t v (s t v h1) h2, fun p h n hn => I.rsv p h n (rsvOf_sub s hn), fun p q hp hq n h1 h2 => I.rsd p q hp hq n (rsvOf_sub s h1) (rsvOf_sub s h2), I.old⟩
theorem Actv.less (A : Actv F φ nb nx N l a k t) (s : EnvSub l' l) : Actv F φ nb nx N l' a k t := by
  cases A with
  | plain he r => exact .plain (he.less s) r
  | lin he hr hd r => exact .lin (he.less s) hr hd r
  | endr he hx r => exact .endr (he.less s) hx r
  | any I hp hd r => exact .any (I.less' s) hp hd r
theorem Susp.less (A : Susp F φ nb nx N l a dst k t) (s : EnvSub l' l) : Susp F φ nb nx N l' a dst k t := by
  cases A with
  | lin he ho hod hr hd r => exact .lin (he.less s) ho hod hr hd r
  | endr he hx r => exact .endr (he.less s) hx r
  | any I hp hd ho hn r => exact .any (I.less' s) hp hd ho hn r
end
theorem isNone_ok {α : Type} {x : Option α} (h : isNone' x = true) : x = none := by
  cases x with
  | none => rfl
  | some _ => cases h
theorem isNil_ok {α : Type} {x : List α} (h : isNil' x = true) : x = [] := by
  cases x with
  | nil => rfl
  | cons _ _ => cases h
theorem stk_less {B : Base} {F : PH} {φ : Vl} {nb : Nat} {f : FuncId} {stk : List Fr} {cs : List Frame} (r : StkR B F φ nb f stk cs) : ∀ es, covS stk es = true → StkR B F φ nb f (stkOf (skS stk) es) cs := by
  induction r with
  | nil => intro es _; exact .nil
  | @cons fr stk ro a t cs nb nb' f s hro hdf hN hle r ih =>
    intro es h
    cases es with
    | nil => cases h
    | cons e es =>
      have h : (isNone' fr.ro && (isNil' fr.df && (covE fr.l e && covS stk es))) = true := h
      simp only [Bool.and_eq_true] at h
      obtain ⟨h1, h2, h3, h4⟩ := h
      have h1 := isNone_ok h1
      have h2 := isNil_ok h2
      rw [h1] at hro
      rw [h2] at hdf
      exact .cons (fr := ⟨fr.f, envOf e, fr.dst, fr.k, none, []⟩) (s.less (envOf_get e fr.l h3)) hro hdf hN hle (ih es h4)
/-- One part of the run. -/
theorem part_ok {n : Nat} {s : St} {K : Skel} {e : EnvT} {es : List EnvT} {h : HpT} {nx : Nat} (hl : look (runS n s) e es h nx = some (K, true)) (G : Good (stOf K e es h nx)) : Good s := by
  intro B m hR
  have hk := run_all n B _ _ _ _ _ m hR
  change ResOk B m (runS n s) at hk
  unfold look at hl
  split at hl
  · rename_i s1 hs
    rw [hs] at hk
    obtain ⟨m', st, F, φ, w, ro, a, t, cs, nb, hm, R⟩ := hk
    simp only [Option.some.injEq, Prod.mk.injEq] at hl
    obtain ⟨hK, hc⟩ := hl
    subst hK
    unfold cov at hc
    simp only [Bool.and_eq_true] at hc
    obtain ⟨c1, c2, c3, c4, c5, c6⟩ := hc
    have c1 := isNone_ok c1
    have c2 := isNil_ok c2
    have c3 : s1.nx = nx := Nat.eq_of_beq_eq_true c3
    subst c3
    have hro := R.ro
    have hdf := R.df
    rw [c1] at hro
    rw [c2] at hdf
    obtain ⟨fr, w2, q1, q2, q3, q4, q5⟩ := G B m' ⟨F, φ, w, ro, a, t, cs, nb, hm, ⟨R.hr.sub fun n o hn => hpT_get h s1.h c6 n o (by
      have : (⟨hpT h, .nil⟩ : Hp).get n = (hpT h).get n := rfl
      rw [← this]; exact hn), R.act.less (envOf_get e s1.l c4), hro, hdf, R.size, stk_less R.stk es c5, R.le, R.free, R.bF, R.bφ, R.bk, R.bw⟩⟩
    exact ⟨fr, w2, st.trans q1, q2, q3, q4, q5⟩
  · cases hl
/-- The last part. -/
theorem last_ok {n : Nat} {s : St} (hl : endsT (runS n s) = true) : Good s := by
  intro B m hR
  have hk := run_all n B _ _ _ _ _ m hR
  change ResOk B m (runS n s) at hk
  unfold endsT at hl
  split at hl
  · rename_i b h nx hs
    rw [hs] at hk
    subst hl
    obtain ⟨fr, w, u, F, φ, h1, h2, h3, h4, h5, h6, h7, h8, h9, h10, h11⟩ := hk
    have h4 : u = .bool true := h4
    subst h4
    exact ⟨fr, w, h1, h2, h3, h10, h6.trans h5.fr⟩
  · cases hl
noncomputable def st0 (f : FuncId) : St := ⟨[.code (bodyOf f)], .nil, Hp.nil, 0, ⟨f, none, [], [], 0⟩⟩
/-- A function without arguments that says true. -/
theorem says_true {f : FuncId} {fn : Func} {c : Code} (hf : funT f = some fn) (hb : fn.body = some c) (G : Good (st0 f)) (F : PH) : Pure P f [] F (.bool true) := by
  unfold Pure Spec
  intro X w hs cs
  obtain ⟨e1, e2, e3⟩ := body_ok hf hb
  have hR : Rel ⟨ph w, fun _ => none, 0, w, cs, f⟩ [.code (bodyOf f)] .nil Hp.nil 0 ⟨f, none, [], [], 0⟩ (lone (Frame.enter P f #[] .normal) cs w) := by
    refine ⟨ph w, fun _ => none, w, none, ⟨#[] ++ Array.replicate (fn.ntmps - (#[] : Array Value).size) undef, []⟩, [.code c], cs, 0, by rw [enter_G (funT_ok hf) hb], ⟨?_, .plain (fun t v h => by cases h) (by rw [e1]; exact .code e2 .nil), rfl, .nil, ?_, .nil, Nat.le_refl _, fun _ _ => rfl, PH.ler _, Vl.ler _, fun _ _ => rfl, Mild.refl w⟩⟩
    · exact ⟨(fun n o b κ e => by cases e), (fun n m o o' b κ κ' e => by cases e), PH.ler _, (fun n o b κ e => by cases e)⟩
    · show nT f ≤ (#[] ++ Array.replicate (fn.ntmps - (#[] : Array Value).size) undef).size
      rw [e3]; simp
  obtain ⟨fr, w', h1, h2, h3, h4, h5⟩ := G _ _ hR
  exact ⟨.returned (.bool true), w', fr, ⟨.bool true, F, [], rfl, PH.ler _, ⟨rfl, rfl⟩, h4, hs.world h5⟩, h1, h3, h2⟩
end Go.Proofs.YtjjjckmpkldgnaaGreatDoor.Rk
