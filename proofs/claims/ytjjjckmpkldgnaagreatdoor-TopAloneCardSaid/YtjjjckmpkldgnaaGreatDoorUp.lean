/-
  The reckoner's operations are the model's: rows put behind rows, copies, clearing. Plain theorems; no condition.
  The reckoner's operations are the model's: calls; all operations. Plain theorems; no condition.
-/
import Derived.Test.YtjjjckmpkldgnaaGreatDoorUn
namespace Go.Proofs.YtjjjckmpkldgnaaGreatDoor.Rk
open Go.RowKit
set_option maxRecDepth 100000
section
variable {a : Act} {F : PH} {φ : Vl} {l : Env} {h : Hp} {nx : Nat} {w : World} {d : Option Nat} {T T' S U E : TypeId} {pos : String} {af : Array Edge} {g : Option (Nat × Bool)} {c : Call} {u v : Value} {sz n m : Nat} {news : List Value}
/-- What a value yields to be put behind. -/
theorem newsOf_ok (r : HR F φ h w) (hT' : (∃ E, P.underlying T' = some (.slice E)) ∨ P.underlying T' = some .string) {x : AV} {cs : List SV} (e : newsOf sz h x = some (m, cs)) (hv : AvD F φ x v) : ∃ us, All2 (SvD F φ) cs us ∧ Src P sz T' v m us w := by
  unfold newsOf at e
  split at e
  · rename_i id off k cp
    obtain ⟨b, κ, hb, hc, rfl⟩ := hv
    cases hr : rd h id off (k * sz) with
    | none => rw [hr] at e; cases e
    | some cl =>
      rw [hr] at e
      cases e
      obtain ⟨us, h1, h2, h3⟩ := rd_ok r hr hb
      exact ⟨us, h1, src_w hT' ⟨by rw [← h1.len, h3], _, _, rfl, hc, fun _ => ⟨_, _, rfl, h2⟩⟩ (svs_ones h1)⟩
  · cases e
    have hv : v = .slice none 0 0 := hv
    subst hv
    exact ⟨[], .nil, src_w hT' ⟨by simp, _, _, rfl, Nat.le_refl _, fun h => absurd h (by omega)⟩ (fun _ h => by cases h)⟩
  · rename_i k t
    split at e
    · rename_i h1
      have h1 := Nat.eq_of_beq_eq_true h1
      cases e
      subst h1
      have hv : SliceV F 1 v (unp m t).length (u8s (unp m t)) := hv
      rw [unp_len] at hv
      exact ⟨_, by simpa using unpB_ok m t [] [] .nil, src_w hT' (hv.mono r.fr) (ones_u8s _)⟩
    · cases e
  · rename_i k t
    split at e
    · rename_i h1
      have h1 := Nat.eq_of_beq_eq_true h1
      cases e
      subst h1
      obtain ⟨_, rfl⟩ := hv
      have := src_s (w := w) (s := strOf (unp m t)) hT'
      rw [byteCells_strOf, strOf_size, unp_len] at this
      exact ⟨_, by simpa using unpB_ok m t [] [] .nil, this⟩
    · cases e
  · cases e
theorem appendR_ok {s : AV} {cs : List SV} (hb : c.callee = .builtin .append) (e1 : c.argTypes = #[T, T']) (e2 : c.args.map a.eval = #[u, v]) (r : HR F φ h w) (ht : elemSize P T = some (E, sz)) (hu : AvD F φ s u) (hcs : All2 (SvD F φ) cs news) (hsrc : Src P sz T' v m news w) :
    SROk ⟨d, .call c, U, pos, af, g⟩ a.eval F φ h nx w (oAppendR E sz m cs h nx s) := by
  unfold oAppendR
  split
  · trivial
  · rename_i hk
    obtain ⟨_, i, hi, _⟩ := elemSize_info ht
    obtain ⟨_, _, _, h0, _⟩ := elemOk_ok hk hi
    have lay : ∀ {κ k : Nat} {cur : Array Value} {φ' : Vl} {os : List SV} {olds : List Value}, φ.le φ' → All2 (SvD F φ) os olds → olds.length = k * sz → cur.toList.take ((k + m) * sz) = olds ++ news → cur.size = κ * sz → κ ≤ maxLen → ObD F φ' κ (.row E sz (os ++ cs)) (.cells cur E (0, 0)) := fun {κ k cur φ' os olds} hl ho hol h1 h2 h3 => by
      refine ⟨olds ++ news, cur, svs_mono (PH.ler _) hl (ho.app hcs), rfl, ?_, h2, h0, h3⟩
      rw [List.length_append, hol, hsrc.newsLen, ← Nat.add_mul]
      exact h1
    split
    · have hu : u = .slice none 0 0 := hu
      subst hu
      split
      · rename_i hm
        have hm := Nat.eq_of_beq_eq_true hm
        subst hm
        have hn : news = [] := List.eq_nil_of_length_eq_zero (by simpa using hsrc.newsLen)
        subst hn
        exact app_none (s := .s .nils) hb e1 e2 r ht rfl rfl hsrc
      · rename_i hm
        split
        · rename_i hle
          have hle := Nat.le_of_ble_eq_true hle
          have hm0 : m ≠ 0 := fun e => by subst e; exact Bool.noConfusion (hm : true = false)
          have := app_grow (d := d) (U := U) (pos := pos) (af := af) (g := g) (nx := nx) (ao := .row E sz cs) hb e1 e2 r ht hk (olds := []) (nil_firsts sz w.drew) (by simp) hsrc (by omega) (by omega) fun κ cur φ' hl h1 h2 h3 _ => lay (os := []) hl .nil (by simp) h1 h2 h3
          rwa [Nat.zero_add] at this
        · trivial
    · rename_i id off k cp
      obtain ⟨b, κ, hb1, hc, rfl⟩ := hu
      split
      · rename_i hm
        have hm := Nat.eq_of_beq_eq_true hm
        subst hm
        have hn : news = [] := List.eq_nil_of_length_eq_zero (by simpa using hsrc.newsLen)
        subst hn
        exact app_none (s := .s (.slc id off k cp)) hb e1 e2 r ht rfl ⟨b, κ, hb1, hc, rfl⟩ hsrc
      · rename_i hm
        split
        · trivial
        · rename_i hle
          have hle := Nat.le_of_ble_eq_true hle
          split
          · trivial
          · rename_i old hr
            obtain ⟨olds, o1, o2, o3⟩ := rd_ok r hr hb1
            have hol : olds.length = k * sz := by rw [← o1.len, o3]
            have hS : SliceV (ph w) sz (.slice (some ⟨b, off, none⟩) k (cp.cap κ)) k olds := ⟨hol, _, _, rfl, hc, fun _ => ⟨_, _, rfl, o2⟩⟩
            split
            · rename_i cap
              split
              · rename_i hg
                have hg : cap < k + m := Nat.le_of_ble_eq_true hg
                exact app_grow hb e1 e2 r ht hk (slice_firsts hS) hol hsrc hg hle fun κ cur φ' hl h1 h2 h3 _ => lay hl o1 hol h1 h2 h3
              · trivial
            · rename_i dd
              split
              · rename_i E' sz' cs' hid
                split
                · rename_i hq
                  simp only [Bool.and_eq_true] at hq
                  obtain ⟨q1, q2, q3, q4, q5⟩ := hq
                  have q1 : E = E' := Nat.eq_of_beq_eq_true q1
                  have q2 : sz = sz' := Nat.eq_of_beq_eq_true q2
                  have q3 : cs'.length = k * sz := Nat.eq_of_beq_eq_true q3
                  have q4 : off = 0 := Nat.eq_of_beq_eq_true q4
                  have q5 : dd = 0 := Nat.eq_of_beq_eq_true q5
                  subst q1 q2 q4 q5
                  have e2 : c.args.map a.eval = #[.slice (some ⟨b, 0, none⟩) k κ, v] := e2
                  obtain ⟨ob, hw, us, cur, hus, rfl, htk, hsz, _, hmx⟩ := r.obj _ _ _ _ hid hb1
                  by_cases hroom : k + m ≤ κ
                  · refine app_room hb e1 e2 r ht hsrc hroom hid hb1 hw (.inl rfl) hsz fun cur' φ' hl h1 h2 => ?_
                    refine lay hl o1 hol ?_ h2 hmx
                    rw [h1]
                    congr 1
                    apply List.ext_getElem?
                    intro j
                    by_cases hj : j < k * sz
                    · have hj' : j < olds.length := by omega
                      have h4 := o2 j _ (List.getElem?_eq_getElem hj')
                      rw [List.getElem?_eq_getElem hj', List.getElem?_take, if_pos hj]
                      unfold cellF at h4
                      rw [hw, Nat.zero_add] at h4
                      rw [Array.getElem?_toList]
                      exact h4
                    · rw [List.getElem?_eq_none (by rw [List.length_take]; omega), List.getElem?_eq_none (by omega)]
                  · have hh := app_grow (d := d) (U := U) (pos := pos) (af := af) (g := g) (nx := nx) (ao := .row E sz (old ++ cs)) hb e1 e2 (r.del id) ht hk (slice_firsts hS) hol hsrc (by omega) hle fun κ cur φ' hl h1 h2 h3 _ => lay hl o1 hol h1 h2 h3
                    exact hh
                · trivial
              · trivial
    · trivial
theorem append_ok {s x : AV} (hb : c.callee = .builtin .append) (e1 : c.argTypes = #[T, T']) (e2 : c.args.map a.eval = #[u, v]) (r : HR F φ h w) (hu : AvD F φ s u) (hv : AvD F φ x v) : SROk ⟨d, .call c, U, pos, af, g⟩ a.eval F φ h nx w (oAppend T T' h nx s x) := by
  unfold oAppend
  split
  · rename_i E sz ht
    have ht := tel_ok ht
    split
    · rename_i hT'
      have hT' := srcB_ok hT'
      split
      · rename_i hq
        simp only [Bool.and_eq_true] at hq
        obtain ⟨q1, q2, q3⟩ := hq
        have q1 : E = tyByte := Nat.eq_of_beq_eq_true q1
        have q2 : sz = 1 := Nat.eq_of_beq_eq_true q2
        subst q1 q2
        exact appendB_ok hb e1 e2 r ht q3 hT' hu hv
      · unfold oAppendN
        split
        · rename_i m cs hn
          obtain ⟨us, h1, h2⟩ := newsOf_ok r hT' hn hv
          exact appendR_ok hb e1 e2 r ht hu h1 h2
        · trivial
    · trivial
  · trivial
theorem take_src {cs : List SV} (r : HR F φ h w) {x : AV} (e : newsOf sz h x = some (m, cs)) (hv : AvD F φ x v) : ∃ us, All2 (SvD F φ) cs us ∧ (∀ w' : World, (Builtin.lenOf v).run P w' = .ok m w') ∧ (∀ k, k ≤ m → (Builtin.firstCells sz k v).run P w = .ok (us.take (k * sz)).toArray w) := by
  have key : ∀ {us : List Value}, SliceV (ph w) sz v m us → (∀ w' : World, (Builtin.lenOf v).run P w' = .ok m w') ∧ (∀ k, k ≤ m → (Builtin.firstCells sz k v).run P w = .ok (us.take (k * sz)).toArray w) := fun {us} hs => by
    obtain ⟨hl, ad, cp, rfl, hn, hc⟩ := hs
    refine ⟨fun _ => rfl, fun k hk => ?_⟩
    by_cases h0 : 0 < m
    · obtain ⟨b, off, rfl, hw⟩ := hc h0
      refine run_firstCells_some w sz k _ m cp _ ?_ fun j u hj => hw.world j u ?_
      · rw [List.length_take, hl]
        exact Nat.min_eq_left (Nat.mul_le_mul_right _ hk)
      · rw [List.getElem?_take] at hj
        split at hj
        · exact hj
        · cases hj
    · have hm : m = 0 := by omega
      have hk0 : k = 0 := by omega
      subst hm hk0
      rw [Nat.zero_mul, List.take_zero]
      cases ad with
      | none => exact run_firstCells_none w sz 0 0 cp
      | some ad => exact run_firstCells_some w sz 0 ad 0 cp [] (by simp) (fun j u e => by simp at e)
  unfold newsOf at e
  split at e
  · rename_i id off k cp
    obtain ⟨b, κ, hb, hc, rfl⟩ := hv
    cases hr : rd h id off (k * sz) with
    | none => rw [hr] at e; cases e
    | some cl =>
      rw [hr] at e
      cases e
      obtain ⟨us, h1, h2, h3⟩ := rd_ok r hr hb
      exact ⟨us, h1, key ⟨by rw [← h1.len, h3], _, _, rfl, hc, fun _ => ⟨_, _, rfl, h2⟩⟩⟩
  · cases e
    have hv : v = .slice none 0 0 := hv
    subst hv
    exact ⟨[], .nil, key ⟨by simp, _, _, rfl, Nat.le_refl _, fun h => absurd h (by omega)⟩⟩
  · rename_i k t
    split at e
    · rename_i h1
      have h1 := Nat.eq_of_beq_eq_true h1
      cases e
      subst h1
      have hv : SliceV F 1 v (unp m t).length (u8s (unp m t)) := hv
      rw [unp_len] at hv
      exact ⟨_, by simpa using unpB_ok m t [] [] .nil, key (hv.mono r.fr)⟩
    · cases e
  · rename_i k t
    split at e
    · rename_i h1
      have h1 := Nat.eq_of_beq_eq_true h1
      cases e
      subst h1
      obtain ⟨_, rfl⟩ := hv
      refine ⟨_, by simpa using unpB_ok m t [] [] .nil, fun _ => ?_, fun k hk => ?_⟩
      · have : (strOf (unp m t)).size = m := by rw [strOf_size, unp_len]
        show Result.ok (strOf (unp m t)).size _ = Result.ok m _
        rw [this]
      · simp [Builtin.firstCells, strOf, u8s, List.map_take]
    · cases e
  · cases e
theorem copy_ok {s x : AV} (hb : c.callee = .builtin .copy) (e1 : c.argTypes = #[T, T']) (e2 : c.args.map a.eval = #[u, v]) (r : HR F φ h w) (hu : AvD F φ s u) (hv : AvD F φ x v) : SROk ⟨d, .call c, U, pos, af, g⟩ a.eval F φ h nx w (oCopy T h nx s x) := by
  obtain ⟨cs, eb⟩ := builtin_run (U := U) (d := d) (pos := pos) (af := af) (g := g) (w := w) (ρ := a.eval) hb
  have run : ∀ {r : Value} {w'}, (Builtin.copy_ #[T, T'] U #[u, v]).run P w = .ok r w' → (execOp a.eval ⟨d, .call c, U, pos, af, g⟩).run P w = .ok (.value r) w' := fun hr => by
    rw [eb, e1, e2]
    exact run_v (s := Builtin.copy_ #[T, T'] U #[u, v]) hr
  unfold oCopy
  split
  · rename_i E sz ht
    obtain ⟨hul, i, hi, hsz⟩ := elemSize_info (tel_ok ht)
    subst hsz
    split
    · rename_i m new hn
      obtain ⟨us, h1, h2, h3⟩ := take_src r hn hv
      split
      · have hu : u = .slice none 0 0 := hu
        subst hu
        refine OpM.val (u := .int .i64 0) (run ?_) rfl r
        have := h3 0 (by omega)
        simp [Builtin.copy_, run_underlying hul, sizeOf, typeInfo, hi, h2, this]
        rfl
      · rename_i id off n cp
        obtain ⟨b, κ, hb1, hc, rfl⟩ := hu
        split
        · rename_i h' hw
          obtain ⟨xs, hx, hw⟩ := oget_some hw
          obtain ⟨ex, _⟩ := ltake_eq _ _ _ hx
          obtain ⟨w', hst, hh, hm⟩ := wr_ok r hw (by rw [ex]; exact h1.take (Nat.min m n * i.size)) hb1
          refine ⟨Nat.le_refl _, fun _ => ⟨.value (goInt (Nat.min m n)), goInt (Nat.min m n), w', F, φ, run ?_, .inl rfl, rfl, hh, PH.ler _, Vl.ler _, fun _ _ => rfl, hm⟩⟩
          have h4 := h3 (Nat.min m n) (Nat.min_le_left _ _)
          simp [Builtin.copy_, run_underlying hul, sizeOf, typeInfo, hi, h2, h4, hst]
        · trivial
      · trivial
    · trivial
  · trivial
theorem clear_ok {s : AV} (hb : c.callee = .builtin .clear) (e1 : c.argTypes = #[T]) (e2 : c.args.map a.eval = #[u]) (r : HR F φ h w) (hu : AvD F φ s u) : SROk ⟨d, .call c, U, pos, af, g⟩ a.eval F φ h nx w (oClear T h nx s) := by
  obtain ⟨cs, eb⟩ := builtin_run (U := U) (d := d) (pos := pos) (af := af) (g := g) (w := w) (ρ := a.eval) hb
  have run : ∀ {r : Value} {w'}, (Builtin.clear_ #[T] U #[u]).run P w = .ok r w' → (execOp a.eval ⟨d, .call c, U, pos, af, g⟩).run P w = .ok (.value r) w' := fun hr => by
    rw [eb, e1, e2]
    exact run_v (s := Builtin.clear_ #[T] U #[u]) hr
  unfold oClear
  split
  · trivial
  · rename_i ds hds
    have hds := undT_ok hds
    split
    · have hu : u = .map none := hu
      subst hu
      exact OpM.val (u := .tuple #[]) (run (by simp [Builtin.clear_, run_underlying hds])) ⟨[], .nil, rfl⟩ r
    · have hu : u = .slice none 0 0 := hu
      subst hu
      exact OpM.val (u := .tuple #[]) (run (by simp [Builtin.clear_, run_underlying hds])) ⟨[], .nil, rfl⟩ r
    · rename_i id
      split
      · rename_i es cl hm
        obtain ⟨b, κ, ms, hb, rfl, hg, k1, k2⟩ := mapOf_id r hm hu
        refine ⟨Nat.le_refl _, fun _ => OpM.put r hg hb ⟨#[], rfl, .nil⟩ (run ?_) (.inl rfl) ⟨[], .nil, rfl⟩⟩
        simp [Builtin.clear_, run_underlying hds, run_getMap k1, run_setMap _ k1]
      · trivial
    · rename_i id off n cp
      obtain ⟨b, κ, hb1, hc, rfl⟩ := hu
      unfold oClearS
      split
      · rename_i E sz ht
        obtain ⟨hul, i, hi, hsz⟩ := elemSize_info (tel_ok ht)
        split
        · rename_i z hz
          split
          · rename_i hl
            have hl := Nat.eq_of_beq_eq_true hl
            split
            · rename_i h' hw
              obtain ⟨us, z1, z2⟩ := tzero_ok (F := F) (φ := φ) hz
              obtain ⟨i', zv, hi', hz', hzc⟩ := zeroCs_info z1
              rw [hi] at hi'
              cases hi'
              obtain ⟨w', hst, hh, hm⟩ := wr_ok r hw (lreps_ok z2 n) hb1
              refine ⟨Nat.le_refl _, fun _ => ⟨.value (.tuple #[]), .tuple #[], w', F, φ, run ?_, .inl rfl, ⟨[], .nil, rfl⟩, hh, PH.ler _, Vl.ler _, fun _ _ => rfl, hm⟩⟩
              have hrow : (Builtin.zeroCells zv.cells n).toList = (List.replicate n us).flatten := by
                have := zero_row (cs := us) n
                unfold Builtin.zeroCells
                rw [hzc]
                show (Array.map (fun i => us.toArray[i % us.toArray.size]!) (Array.range (n * us.length))).toList = _
                rw [this]
              cases n with
              | zero =>
                have : w' = w := by
                  simp [storeCells] at hst
                  exact hst.symm
                subst this
                simp [Builtin.clear_, run_underlying hul]
              | succ n =>
                simp [Builtin.clear_, run_underlying hul, zeroValue, typeInfo, hi, hz', hrow, hst]
            · trivial
          · trivial
        · trivial
      · trivial
    · trivial
end
end Go.Proofs.YtjjjckmpkldgnaaGreatDoor.Rk
namespace Go.Proofs.YtjjjckmpkldgnaaGreatDoor.Rk
open Go.RowKit
set_option maxRecDepth 100000
theorem names_all : P.funcs.toList.all (fun f => !(f.name == "runtime.NumGoroutine")) = true := by decide +kernel
section
variable {a : Act} {F : PH} {φ : Vl} {l : Env} {h : Hp} {nx : Nat} {w : World} {d : Option Nat} {T T' S U E : TypeId} {pos : String} {af : Array Edge} {g : Option (Nat × Bool)}
theorem enter_ok {f : FuncId} {fn : Func} {c : Code} (hf : funT f = some fn) (hb : fn.body = some c) (args : Array Value) (w : World) : (callFunc f args).run P w = .ok (.enter f args) w := by
  have h1 := funT_ok hf
  have h2 : fn ∈ P.funcs.toList := List.mem_of_getElem? (by rw [Array.getElem?_toList]; exact h1)
  have h3 := List.all_eq_true.1 names_all fn h2
  have h4 : ¬ fn.name = "runtime.NumGoroutine" := by simpa using h3
  unfold callFunc
  simp [go_sem, h1, h4, hb]
theorem callF_ok {o : Oper} {ρ : Operand → Value} {f : FuncId} {args : List AV} {us : Array Value} (he : (execOp ρ o).run P w = (callFunc f us).run P w) (hu : All2 (AvD F φ) args us.toList) : SROk o ρ F φ h nx w (callF f args) := by
  unfold callF
  split
  · rename_i fn hf
    split
    · rename_i c hb
      exact ⟨us, by rw [he]; exact enter_ok hf hb us w, hu, fn, c, hf, hb⟩
    · trivial
  · trivial
theorem pvs_ofPV {xs : List PV} {us : List Value} (hx : All2 (PvD φ) xs us) : All2 (AvD F φ) (xs.map ofPV) us := by
  induction hx with
  | nil => exact .nil
  | @cons p u ps us h _ ih =>
    refine .cons ?_ ih
    cases p <;> exact h
theorem method_run {t : TypeId} {name : String} {f : FuncId} (hm : tmeth t name = some f) (b : Addr) (N : Nat) (w : World) : (method (N + 1) t (.pointer (some b)) name).run P w = .ok (f, .pointer (some b)) w := by
  obtain ⟨i, m, p, _, k1, k2, k3, k4, k5, _⟩ := tmeth_ok hm
  have hp : m.path = #[] := by simpa using k3
  unfold method
  simp [run_typeInfo k1, k2, hp, follow, k4, receiverAt, run_underlying k5, Place.get, go_sem]
theorem builtin_call {c : Call} {b : Builtin} (hb : c.callee = .builtin b) {vs : List AV} (hv : All2 (AvD F φ) vs (c.args.map a.eval).toList) (r : HR F φ h w) : SROk ⟨d, .call c, U, pos, af, g⟩ a.eval F φ h nx w (oBuiltin b c.argTypes.toList h nx vs) := by
  unfold oBuiltin
  generalize hts : c.argTypes.toList = ts
  generalize hus : (c.args.map a.eval).toList = us at hv
  split
  · cases hv with
    | cons v1 v2 => cases v2; exact len_ok hb hts hus v1 r
  · cases hv with
    | cons v1 v2 => cases v2; exact cap_ok hb hts hus v1 r
  · cases hv with
    | cons v1 v2 => cases v2 with
      | cons v2 v3 =>
        cases v3
        have v1 : _ = Value.int _ _ := v1
        have v2 : _ = Value.int _ _ := v2
        subst v1 v2
        exact min_ok hb hus r
  · cases hv with
    | cons v1 v2 => cases v2 with
      | cons v2 v3 =>
        cases v3
        have v1 : _ = Value.int _ _ := v1
        have v2 : _ = Value.int _ _ := v2
        subst v1 v2
        exact max_ok hb hus r
  · cases hv with
    | cons v1 v2 => cases v2 with
      | cons v2 v3 => cases v3; exact append_ok hb (arr2 hts) (arr2 hus) r v1 v2
  · cases hv with
    | cons v1 v2 => cases v2 with
      | cons v2 v3 => cases v3; exact copy_ok hb (arr2 hts) (arr2 hus) r v1 v2
  · cases hv with
    | cons v1 v2 => cases v2 with
      | cons v2 v3 => cases v3; exact delete_ok hb hts hus v1 v2 r
  · cases hv with
    | cons v1 v2 => cases v2; exact clear_ok hb (arr1 hts) (arr1 hus) r v1
  · trivial
theorem call_ok {c : Call} (hx : ∀ y, OpOk F φ l a.eval y) (r : HR F φ h w) : SROk ⟨d, .call c, U, pos, af, g⟩ a.eval F φ h nx w (sCall c l h nx) := by
  unfold sCall oCall
  split
  · trivial
  · rename_i vs hvs
    have hv : All2 (AvD F φ) vs (c.args.map a.eval).toList := by
      rw [Array.toList_map]; exact evs_ok hx hvs
    split
    · rename_i f hc
      refine callF_ok (us := c.args.map a.eval) ?_ hv
      simp [execOp, resolve, hc, Act.eval, Deferred.ofValue, invoke]
    · rename_i x hnf hc
      refine on1_ok (hx x) fun gv hg => ?_
      unfold oCallV
      split
      · rename_i f p q
        obtain ⟨g', us, ws, hf, h1, h2, e⟩ := hg
        have hf : g' = .func f := hf
        subst hf
        refine callF_ok (us := (us.toArray ++ c.args.map a.eval) ++ ws.toArray) ?_ ?_
        · simp [execOp, resolve, hc, e, Deferred.ofValue, invoke]
        · have := (pvs_ofPV (F := F) h1).app (hv.app (pvs_ofPV (F := F) h2))
          simpa [List.append_assoc] using this
      · rename_i y q
        obtain ⟨g', us, ws, hf, h1, h2, e⟩ := hg
        obtain ⟨b, κ, hb, hf⟩ := hf
        subst hf
        cases h1
        refine ⟨b, κ, c.args.map a.eval, hb, ?_, hv⟩
        simp [execOp, resolve, hc, e, Deferred.ofValue, invoke]
      · trivial
    · rename_i x name hc
      refine on1_ok (hx x) fun rv hr => ?_
      unfold oInvoke
      split
      · rename_i t id off
        obtain ⟨b, κ, hb, e⟩ := hr
        split
        · rename_i f hm
          refine callF_ok (us := #[.pointer (some ⟨b, off, none⟩)] ++ c.args.map a.eval) ?_ ?_
          · have hme := method_run hm ⟨b, off, none⟩ (P.types.size + 99) w
            have e3 : ∀ (x : Value) (xs : Array Value), (#[x] ++ xs)[0]? = some x := fun x ⟨xs⟩ => by simp
            have e4 : ∀ (x : Value) (xs : Array Value), (#[x] ++ xs).extract 1 (#[x] ++ xs).size = xs := fun x ⟨xs⟩ => by simp
            unfold execOp
            simp only [resolve, hc, e, pure_bind, invoke, e3, e4, callMethod]
            simp [go_sem]
            rw [show (method (P.types.size + 100) t (.pointer (some ⟨b, off, none⟩)) name).run P w = _ from hme]
            rfl
          · rw [Array.toList_append]
            exact .cons ⟨b, κ, hb, rfl⟩ hv
        · trivial
      · trivial
    · rename_i b hc
      exact builtin_call hc hv r
/-- Each operation. -/
theorem sem_ok {p : Op} (he : EnvOk F φ l a) (r : HR F φ h w) : SROk ⟨d, p, U, pos, af, g⟩ a.eval F φ h nx w (sem p l h nx) := by
  have hx : ∀ y, OpOk F φ l a.eval y := he.op
  cases p with
  | move x => exact move_ok (hx _) r
  | assign x => exact assign_ok (hx _) r
  | pick x y z => exact pick_ok (hx _) (hx _) (hx _) r
  | alloc E => exact alloc_ok (l := l) r
  | box E x => exact box_ok (hx _) r
  | build T ps => exact build_ok hx r
  | buildSlice T n ps => exact buildSlice_ok hx r
  | load T x => exact load_ok (hx _) r
  | store T x y => exact store_ok (hx _) (hx _) r
  | nilCheck x => exact nilCheck_ok (hx _) r
  | binOp op T x y T' => exact bin_ok (hx _) (hx _) r
  | unOp op T x => exact un_ok (hx _) r
  | convert S T x => exact convert_ok (hx _) r
  | makeInterface T x => exact makeIface_ok (hx _) r
  | makeFunc f ps qs => exact makeFunc_ok hx r
  | makeMap T q => exact makeMap_ok (l := l) r
  | makeSlice T x y => exact makeSlice_ok (hx _) (hx _) r
  | slice T x lo hi mx => exact slice_ok hx r
  | fieldAddr T x i => exact fieldAddr_ok (hx _) r
  | field T x i => exact field_ok (hx _) r
  | indexAddr T x y => exact indexAddr_ok (hx _) (hx _) r
  | index T x y => exact index_ok (hx _) (hx _) r
  | lookup T x y ok => exact lookup_ok (hx _) (hx _) r
  | mapUpdate T x y z => exact mapUpdate_ok (hx _) (hx _) (hx _) r
  | mapEntry T x y => exact mapEntry_ok (hx _) (hx _) r
  | entryStore T x y z => exact entryStore_ok (hx _) (hx _) (hx _) r
  | range T x => exact range_ok (hx _) r
  | next x s => exact next_ok (hx _) r
  | entry x => exact entry_ok (hx _) r
  | extract x i => exact extract_ok (hx _) r
  | call c => exact call_ok hx r
  | _ => trivial
end
end Go.Proofs.YtjjjckmpkldgnaaGreatDoor.Rk
