/-
  The reckoner's operations are the model's: ranges over maps. Plain theorems; no condition.
  The reckoner's operations are the model's: conversions, append. Plain theorems; no condition.
-/
import Derived.Test.YtjjjckmpkldgnaaGreatDoorUk
import Derived.Deep.Upon
import Derived.Lib.ConvBytes
namespace Go.Proofs.YtjjjckmpkldgnaaGreatDoor.Rk
open Go.RowKit
set_option maxRecDepth 100000
section
variable {a : Act} {F : PH} {φ : Vl} {l : Env} {h : Hp} {nx : Nat} {w : World} {d : Option Nat} {T T' U E : TypeId} {pos : String} {af : Array Edge} {g : Option (Nat × Bool)} {x y z : Operand}
theorem range_ok (hx : OpOk F φ l a.eval x) (r : HR F φ h w) : SROk ⟨d, .range T x, U, pos, af, g⟩ a.eval F φ h nx w (sRange T x l h nx) := by
  refine on1_ok hx fun v hv => ?_
  unfold oRange
  split
  · rename_i n s
    obtain ⟨_, e1⟩ := hv
    split
    · rename_i hT
      refine new_ok 0 r (u := .pointer (some ⟨w.heap.size, 0, none⟩)) (ob := .stringIter (strOf (unp n s)) 0) (fun φ' _ e => ⟨_, _, e, rfl⟩) (fun φ' hl => rfl) ?_
      refine run_v (s := Instr.range T (a.eval x)) ?_
      rw [e1]
      exact run_range_string w T _ (isStr_ok hT)
    · trivial
  unfold oRangeM
  split
  · rename_i hT
    obtain ⟨k, e, he⟩ := isMap_ok hT
    split
    · have hv : a.eval x = .map none := hv
      refine new_ok 0 r (u := .pointer (some ⟨w.heap.size, 0, none⟩)) (ob := .mapIter none 0 #[] 0) (fun φ' _ e => ⟨_, _, e, rfl⟩) (fun φ' hl => ⟨none, #[], rfl, rfl, rfl⟩) ?_
      refine run_v (s := Instr.range T (a.eval x)) ?_
      rw [hv]
      simp [Instr.range, run_underlying he, go_sem]
    · rename_i id
      split
      · rename_i es c hm
        obtain ⟨b, κ, ms, hb, e1, hg, k1, k2⟩ := mapOf_id r hm hv
        refine new_ok 0 r (u := .pointer (some ⟨w.heap.size, 0, none⟩)) (ob := .mapIter (some b) c #[] c) (fun φ' _ e => ⟨_, _, e, rfl⟩) (fun φ' hl => ⟨some b, #[], rfl, rfl, b, κ, hl _ _ hb, rfl⟩) ?_
        refine run_v (s := Instr.range T (a.eval x)) ?_
        rw [e1]
        simp [Instr.range, run_underlying he, run_getMap k1, go_sem]
      · trivial
    · trivial
  · trivial
theorem nhas_ok {s : Nat} : ∀ {l : List Nat}, nhas s l = true ↔ s ∈ l
  | [] => by simp [nhas]
  | a :: r => by
    unfold nhas
    split
    · rename_i e; have := Nat.eq_of_beq_eq_true e; simp [this]
    · rename_i e
      have := Nat.ne_of_beq_eq_false e
      rw [nhas_ok]
      simp [Ne.symm this]
theorem mold_ok {s : Nat} : ∀ {es : List (TV × TV × Nat)} {ms : List MapEntry}, mold s es = true → All2 (EsD F φ) es ms → ∀ m ∈ ms, m.born < s
  | [], ms, h, hm => by cases hm; intro m h; cases h
  | (k, v, b) :: es, ms, h, hm => by
    cases hm with
    | @cons _ m _ ms' m1 m2 =>
    unfold mold at h
    rw [Bool.and_eq_true] at h
    intro q hq
    rcases List.mem_cons.1 hq with e | e
    · subst e; rw [m1.2.2]; exact Nat.le_of_ble_eq_true h.1
    · exact mold_ok h.2 m2 q e
theorem mleft_ok {seen : List Nat} {sa : Array Nat} (hs : sa.toList.reverse = seen) : ∀ {es : List (TV × TV × Nat)} {ms : List MapEntry}, All2 (EsD F φ) es ms → All2 (EsD F φ) (mleft seen es) (ms.filter fun e => !sa.contains e.born)
  | [], ms, hm => by cases hm; exact .nil
  | (k, v, b) :: es, ms, hm => by
    cases hm with
    | @cons _ m _ ms' m1 m2 =>
    have hb : m.born = b := m1.2.2
    have key : sa.contains m.born = nhas b seen := by
      rw [Bool.eq_iff_iff, nhas_ok, ← hs, hb]
      simp
    unfold mleft
    rw [List.filter_cons, key]
    split
    · rename_i e; rw [e, if_neg (by simp)]; exact mleft_ok hs m2
    · rename_i e; rw [e, if_pos (by simp)]; exact .cons m1 (mleft_ok hs m2)
theorem All2.mem_r {α β : Type} {R : α → β → Prop} {xs : List α} {ys : List β} (h : All2 R xs ys) : ∀ y ∈ ys, ∃ x ∈ xs, R x y := by
  induction h with
  | nil => intro y hy; cases hy
  | cons a _ ih =>
    intro y hy
    rcases List.mem_cons.1 hy with e | e
    · subst e; exact ⟨_, List.mem_cons_self .., a⟩
    · obtain ⟨x, hx, hr⟩ := ih y e; exact ⟨x, List.mem_cons_of_mem _ hx, hr⟩
theorem next_ok {str : Bool} {ps : String} (hx : OpOk F φ l a.eval x) (r : HR F φ h w) : SROk ⟨d, .next x str, U, ps, af, g⟩ a.eval F φ h nx w (sNext x str l h nx) := by
  refine on1_ok hx fun v hv => ?_
  unfold oNext
  split
  · unfold oNextS
    split
    · rename_i it
      obtain ⟨b, κ, hb, e⟩ := hv
      split
      · rename_i n s pos hg
        obtain ⟨ob, k1, e2⟩ := r.obj _ _ _ _ hg hb
        have e2 : ob = .stringIter (strOf (unp n s)) pos := e2
        subst e2
        have k1 : w.heap[b]? = _ := k1
        have hsz : (strOf (unp n s)).size = n := by show (unp n s).toArray.size = n; simp [unp_len]
        split
        · rename_i hlt
          have hlt : pos < n := Nat.le_of_ble_eq_true hlt
          unfold nextC
          split
          · rename_i hc
            have hc : s / 256 ^ (n - 1 - pos) % 256 < 128 := Nat.le_of_ble_eq_true hc
            have hdec : Utf8.decode (strOf (unp n s)) pos = (s / 256 ^ (n - 1 - pos) % 256, 1) := by
              have hg0 : ((strOf (unp n s)).get! (pos + 0)).toNat = s / 256 ^ (n - 1 - pos) % 256 := by
                have h1 : (strOf (unp n s)).get! (pos + 0) = UInt8.ofNat (s / 256 ^ (n - 1 - pos)) := by
                  show (unp n s).toArray[pos + 0]! = _
                  have := unp_get (x := s) hlt
                  rw [Nat.add_zero, getElem!_def, List.getElem?_toArray, this]
                rw [h1, UInt8.toNat_ofNat']
              unfold Utf8.decode
              simp only [hg0]
              rw [if_pos hc]
            refine ⟨Nat.le_refl _, fun _ => OpM.put r hg hb (o := ⟨d, .next x true, U, ps, af, g⟩) (u := .tuple #[.bool true, goInt pos, .int .i32 (s / 256 ^ (n - 1 - pos) % 256 : Nat)]) rfl (run_v (s := Instr.next (a.eval x) true U) ?_) (.inl rfl) ⟨[.bool true, goInt pos, .int .i32 (s / 256 ^ (n - 1 - pos) % 256 : Nat)], .cons rfl (.cons rfl (.cons rfl .nil)), rfl⟩⟩
            rw [e, Lib.run_next_any_at w b (strOf (unp n s)) pos U k1 (by omega), hdec]
            rfl
          · trivial
        · rename_i hlt
          have hlt : ¬ pos < n := fun h => by rw [show Nat.blt pos n = true from Nat.ble_eq_true_of_le h] at hlt; cases hlt
          refine ⟨Nat.le_refl _, fun _ => ⟨.value (.tuple #[.bool false]), .tuple #[.bool false], w, F, φ, run_v (s := Instr.next (a.eval x) true U) ?_, .inl rfl, ⟨[.bool false], .cons rfl .nil, rfl⟩, r.del _, PH.ler _, Vl.ler _, fun _ _ => rfl, Mild.refl w⟩⟩
          rw [e]
          exact Lib.run_next_end_at w b (strOf (unp n s)) pos U k1 (by omega)
      · trivial
    · trivial
  · split
    · rename_i it
      obtain ⟨b, κ, hb, e⟩ := hv
      split
      · rename_i hg
        obtain ⟨ob, k1, mb, ms, rfl, _, k2⟩ := r.obj _ _ _ _ hg hb
        have k2 : mb = none := k2
        subst k2
        refine ⟨Nat.le_refl _, fun _ => ⟨.value (.tuple #[.bool false]), .tuple #[.bool false], w, F, φ, run_v (s := Instr.next (a.eval x) false U) ?_, .inl rfl, ⟨[.bool false], .cons rfl .nil, rfl⟩, r.del _, PH.ler _, Vl.ler _, fun _ _ => rfl, Mild.refl w⟩⟩
        rw [e]
        have k1 : w.heap[b]? = _ := k1
        simp [Instr.next, getObj, Sem.run, k1, go_sem]
      · rename_i m since seen last hg
        obtain ⟨ob, k1, mb, ms, rfl, hs, k2⟩ := r.obj _ _ _ _ hg hb
        obtain ⟨bm, κ', hbm, rfl⟩ := k2
        split
        · rename_i es c hgm
          obtain ⟨ob, q1, mes, rfl, q2⟩ := r.obj _ _ _ _ hgm hbm
          split
          · rename_i hc
            rw [Bool.and_eq_true] at hc
            have hc1 := Nat.le_of_ble_eq_true hc.1
            have hold := mold_ok hc.2 q2
            have hleft := mleft_ok hs q2
            have hll : (leftOf mes ms).toList = mes.toList.filter fun e => !ms.contains e.born := by unfold leftOf; simp
            rw [← hll] at hleft
            rcases run_next_at (P := P) w U b bm since last ms mes c k1 q1 hold hc1 with ⟨h0, hrun⟩ | ⟨en, he, w1, hw1, hrun⟩
            · have hnil : mleft seen es = [] := by
                apply List.eq_nil_of_length_eq_zero
                rw [hleft.len]; simpa using h0
              rw [hnil]
              refine ⟨Nat.le_refl _, fun _ => ⟨.value (.tuple #[.bool false]), .tuple #[.bool false], w, F, φ, run_v (s := Instr.next (a.eval x) false U) ?_, .inl rfl, ⟨[.bool false], .cons rfl .nil, rfl⟩, r.del _, PH.ler _, Vl.ler _, fun _ _ => rfl, Mild.refl w⟩⟩
              rw [e]; exact hrun
            · obtain ⟨t, ht, td⟩ := hleft.mem_r en he
              unfold oNextM
              split
              · rename_i hn; rw [hn] at ht; cases ht
              · rename_i t0 rest hn
                rw [hn] at ht
                refine ⟨nextF h it m since seen c t, List.mem_map_of_mem ht, ?_⟩
                have hm1 : Mild w w1 := by
                  rcases hw1 with rfl | rfl
                  · exact Mild.refl _
                  · exact Mild.drew _
                have r1 : HR F φ h w1 := by rcases hw1 with rfl | rfl <;> exact r.grow (PH.ler _)
                have hput := put_hr r1 hg hb (o' := .iter (some m) since (t.2.2 :: seen) c) (ob' := .mapIter (some bm) since (ms.push en.born) c) ⟨some bm, ms.push en.born, rfl, by rw [Array.toList_push, List.reverse_append, hs, td.2.2]; rfl, bm, κ', hbm, rfl⟩
                refine ⟨.value (.tuple #[.bool true, en.key, en.val]), .tuple #[.bool true, en.key, en.val], _, F, φ, run_v (s := Instr.next (a.eval x) false U) (by rw [e]; exact hrun), .inl rfl, ⟨[.bool true, en.key, en.val], .cons rfl (.cons td.1 (.cons td.2.1 .nil)), rfl⟩, hput, PH.ler _, Vl.ler _, fun _ _ => rfl, hm1.trans (Mild.putObj w1 b _)⟩
          · trivial
        · trivial
      · trivial
    · trivial
theorem efind_ok {b : Nat} {k v : TV} : ∀ {es : List (TV × TV × Nat)} {ms : List MapEntry}, efind b es = some (k, v) → All2 (EsD F φ) es ms → ∃ m, ms.find? (·.born == b) = some m ∧ TvD F φ k m.key ∧ TvD F φ v m.val
  | [], ms, h, hm => by cases h
  | (k', v', n) :: es, ms, h, hm => by
    cases hm with
    | @cons _ m _ ms' m1 m2 =>
    have hb : m.born = n := m1.2.2
    unfold efind at h
    rw [List.find?_cons]
    split at h
    · rename_i e
      have e := Nat.eq_of_beq_eq_true e
      cases h
      refine ⟨m, ?_, m1.1, m1.2.1⟩
      rw [hb, e]; simp
    · rename_i e
      have e := Nat.ne_of_beq_eq_false e
      obtain ⟨q, h1, h2⟩ := efind_ok h m2
      refine ⟨q, ?_, h2⟩
      have : (m.born == b) = false := by rw [hb]; simpa using e
      rw [this]; exact h1
theorem entry_ok (hx : OpOk F φ l a.eval x) (r : HR F φ h w) : SROk ⟨d, .entry x, U, pos, af, g⟩ a.eval F φ h nx w (sEntry x l h nx) := by
  refine on1_ok hx fun v hv => ?_
  unfold oEntry
  split
  · rename_i it
    obtain ⟨b, κ, hb, e⟩ := hv
    split
    · rename_i m since b0 seen last hg
      obtain ⟨ob, k1, mb, ms, rfl, hs, k2⟩ := r.obj _ _ _ _ hg hb
      obtain ⟨bm, κ', hbm, rfl⟩ := k2
      split
      · rename_i es c hgm
        obtain ⟨ob, q1, mes, rfl, q2⟩ := r.obj _ _ _ _ hgm hbm
        split
        · rename_i hc
          have hc := Nat.eq_of_beq_eq_true hc
          split
          · rename_i k v he
            obtain ⟨q, h1, h2, h3⟩ := efind_ok he q2
            refine OpM.val (u := .tuple #[q.key, q.val]) (run_v (s := Instr.entry (a.eval x)) ?_) ⟨[q.key, q.val], .cons h2 (.cons h3 .nil), rfl⟩ r
            have hback : ms.back? = some b0 := by
              rw [← Array.getLast?_toList, ← List.head?_reverse, hs]; rfl
            have hf : mes.find? (·.born == b0) = some q := by rw [← Array.find?_toList]; exact h1
            have k1 : w.heap[b]? = _ := k1
            have q1 : w.heap[bm]? = _ := q1
            rw [e]
            simp [Instr.entry, getObj, Sem.run, k1, q1, hback, hc, hf, go_sem, Result.andThen]
          · trivial
        · trivial
      · trivial
    · trivial
  · trivial
end
end Go.Proofs.YtjjjckmpkldgnaaGreatDoor.Rk
namespace Go.Proofs.YtjjjckmpkldgnaaGreatDoor.Rk
open Go.RowKit
set_option maxRecDepth 100000
section
variable {a : Act} {F : PH} {φ : Vl} {l : Env} {h : Hp} {nx : Nat} {w : World} {d : Option Nat} {T T' S U E : TypeId} {pos : String} {af : Array Edge} {g : Option (Nat × Bool)} {x y z : Operand}
/-- A new block, in whatever world it has come to be. -/
theorem new_okW {o : Oper} {v : AV} {u : Value} {ao : AO} {ob : Obj} {w' : World} (κ : Nat) (r : HR F φ h w) (hu : ∀ φ' : Vl, φ.le φ' → φ' nx = some (w.heap.size, κ) → AvD F φ' v u) (ho : ∀ φ' : Vl, φ.le φ' → ObD F φ' κ ao ob) (e : (execOp a.eval o).run P w = .ok (.value u) w') (hle : (ph w).le (ph w')) (hw : ph w' w.heap.size = some ob) (hm : Mild w w') : SROk o a.eval F φ h nx w (.m v (h.set ao nx) (nx + 1)) := by
  refine ⟨Nat.le_succ _, fun hfr => ?_⟩
  have hn : φ nx = none := hfr nx (Nat.le_refl _) (Nat.lt_succ_self _)
  have hl := Vl.le_put (x := (w.heap.size, κ)) hn
  refine ⟨.value u, u, _, F, φ.put nx (w.heap.size, κ), e, .inl rfl, hu _ hl (Vl.put_self ..), r.new hn hle ?_ hw (ho _ hl), PH.ler _, hl, fun n hn' => Vl.put_other _ _ (by omega), hm⟩
  cases hq : ph w w.heap.size with
  | none => rfl
  | some y => exact absurd (ph_lt hq) (by omega)
theorem u8_ok (h : isU8 E = true) : P.underlying E = some (.int .u8) := by
  unfold isU8 at h
  split at h
  · rename_i hu; exact undT_ok hu
  · cases h
theorem pow_pos' (n : Nat) : 0 < 256 ^ n := Nat.pow_pos (by decide)
/-- Bytes of a value. -/
theorem bytesOf_ok (r : HR F φ h w) {v : AV} {u : Value} {n s : Nat} (e : bytesOf h v = some (n, s)) (hv : AvD F φ v u) : s < 256 ^ n ∧ ((v = .s (.str n s) ∧ u = .string (strOf (unp n s))) ∨ SliceV (ph w) 1 u n (u8s (unp n s))) := by
  have hl : ∀ k s : Nat, (u8s (unp k s)).length = k * 1 := fun k s => by simp [u8s, unp_len]
  unfold bytesOf at e
  split at e
  · rename_i m t
    cases e
    have hv : Byt F u (unp n t) := hv
    refine ⟨Nat.mod_lt _ (pow_pos' n), .inr ?_⟩
    have h2 : SliceV F 1 u (unp n t).length (u8s (unp n t)) := hv
    rw [unp_len] at h2
    rw [unp_mod]
    exact h2.mono r.fr
  · cases e
    obtain ⟨h1, rfl⟩ := hv
    exact ⟨h1, .inl ⟨rfl, rfl⟩⟩
  · cases e
    have hv : u = .slice none 0 0 := hv
    subst hv
    exact ⟨by simp, .inr ⟨rfl, none, 0, rfl, Nat.le_refl _, fun h => absurd h (by omega)⟩⟩
  · rename_i id off m c
    obtain ⟨b, κ, hb, hc, rfl⟩ := hv
    obtain ⟨o, hg, e⟩ := oget_some e
    obtain ⟨ob, hw, hd⟩ := r.obj _ _ _ _ hg hb
    cases o with
    | brow k t =>
      dsimp only at e
      split at e
      · rename_i hle
        cases e
        have hle := Nat.le_of_ble_eq_true hle
        refine ⟨Nat.mod_lt _ (pow_pos' n), .inr ⟨hl .., _, _, rfl, hc, fun _ => ⟨_, _, rfl, ?_⟩⟩⟩
        have hr : rd h id off n = some (unpB n (t / 256 ^ (k - off - n)) []) := by
          unfold rd
          rw [hg]
          show (if Nat.ble (off + n) k = true then _ else _) = _
          rw [if_pos (Nat.ble_eq_true_of_le hle)]
        obtain ⟨us, h1, h2, _⟩ := rd_ok r hr hb
        have h3 : us = u8s (unp n (t / 256 ^ (k - off - n))) := by
          have h4 : All2 (SvD F φ) (unpB n (t / 256 ^ (k - off - n)) []) (u8s (unp n (t / 256 ^ (k - off - n))) ++ []) := unpB_ok _ _ _ _ .nil
          rw [List.append_nil] at h4
          have : ∀ {cs : List SV} {us vs : List Value}, (∀ c ∈ cs, ∃ k m, c = .int k m) → All2 (SvD F φ) cs us → All2 (SvD F φ) cs vs → us = vs := by
            intro cs
            induction cs with
            | nil => intro us vs _ p q; cases p; cases q; rfl
            | cons c cs ih =>
              intro us vs hi p q
              obtain ⟨k, m, rfl⟩ := hi c (List.mem_cons_self ..)
              cases p with
              | cons p1 p2 => cases q with
                | cons q1 q2 =>
                  rw [ih (fun c hc => hi c (List.mem_cons_of_mem _ hc)) p2 q2]
                  have p1 : _ = Value.int k m := p1
                  have q1 : _ = Value.int k m := q1
                  rw [p1, q1]
          refine this ?_ h1 h4
          have : ∀ (n x : Nat) (acc : List SV), (∀ c ∈ acc, ∃ k m, c = SV.int k m) → ∀ c ∈ unpB n x acc, ∃ k m, c = .int k m := by
            intro n
            induction n with
            | zero => intro x acc h; exact h
            | succ n ih =>
              intro x acc h
              refine ih _ _ fun c hc => ?_
              rcases List.mem_cons.1 hc with rfl | hc
              · exact ⟨_, _, rfl⟩
              · exact h c hc
          exact this _ _ _ (fun c hc => by cases hc)
        rw [unp_mod, ← h3]
        exact h2
      · cases e
    | cells E cs =>
      dsimp only at e
      obtain ⟨cl, he, e⟩ := oget_some e
      cases hp : packB cl 0 with
      | none => rw [hp] at e; cases e
      | some y =>
        rw [hp] at e
        cases e
        have hr : rd h id off n = some cl := by unfold rd; rw [hg]; exact he
        obtain ⟨us, h1, h2, h3⟩ := rd_ok r hr hb
        obtain ⟨t, ht, hy, hu⟩ := packB_ok cl us 0 _ h1 hp
        rw [Nat.zero_mul, Nat.zero_add] at hy
        subst hy
        rw [h3] at ht hu
        subst hu
        exact ⟨ht, .inr ⟨hl .., _, _, rfl, hc, fun _ => ⟨_, _, rfl, h2⟩⟩⟩
    | _ => cases e
  · cases e
theorem conv_int {k : IntKind} {n : Int} (e : a.eval x = .int k n) (r : HR F φ h w) : SROk ⟨d, .convert S T x, U, pos, af, g⟩ a.eval F φ h nx w (oConvI S T n) := by
  unfold oConvI
  split
  · rename_i hS
    split
    · rename_i k' hT
      refine OpM.val (u := .int k' (wrapI k' n)) (run_v (s := convert S T (a.eval x)) ?_) rfl r
      have hw : wrapI k' n = k'.wrap n := by
        unfold wrapI
        split
        · rename_i hk; exact (wrap_in (inK_ok hk)).symm
        · rfl
      rw [e, hw]
      simp [convert, run_underlying (undT_ok hS), run_underlying (undT_ok hT), Conv.intToInt]
    · trivial
  · trivial
theorem conv_str {n s : Nat} (e : a.eval x = .string (strOf (unp n s))) (hs : s < 256 ^ n) (r : HR F φ h w) : SROk ⟨d, .convert S T x, U, pos, af, g⟩ a.eval F φ h nx w (oConvS S T h nx (.s (.str n s)) n s) := by
  unfold oConvS
  split
  · rename_i hS
    split
    · rename_i hT
      refine OpM.val (u := .string (strOf (unp n s))) (run_v (s := convert S T (a.eval x)) ?_) ⟨hs, rfl⟩ r
      rw [e]
      simp [convert, run_underlying (undT_ok hS), run_underlying (undT_ok hT)]
    · rename_i E hT
      split
      · rename_i hb
        rw [Bool.and_eq_true, Bool.and_eq_true] at hb
        have hE : E = tyByte := Nat.eq_of_beq_eq_true hb.1
        subst hE
        have hu := u8_ok hb.2.1
        have hn := Nat.le_of_ble_eq_true hb.2.2
        have hsz : (strOf (unp n s)).size = n := by rw [strOf_size, unp_len]
        have hrun := Lib.run_convert_string_bytes (P := P) w S T tyByte (strOf (unp n s)) (undT_ok hS) (undT_ok hT) hu
        rw [hsz] at hrun
        refine new_okW (grownCap w n 0 tyByte) r (u := .slice (some ⟨w.heap.size, 0, none⟩) n (grownCap w n 0 tyByte)) (w' := Lib.bytesWorld w tyByte (strOf (unp n s))) (ob := .cells (Lib.bytesCells w tyByte (strOf (unp n s))) tyByte ((Lib.bytesCells w tyByte (strOf (unp n s))).size, (Lib.bytesCells w tyByte (strOf (unp n s))).size + 1)) (fun φ' _ e => ⟨_, _, e, grownCap_ge w n 0 tyByte, rfl⟩) (fun φ' hl => ?_) ?_ ?_ (Lib.bytesWorld_at_new w tyByte (strOf (unp n s))) ⟨rfl, rfl, rfl, by rw [Lib.bytesWorld_size]; omega⟩
        · have hcs : (Lib.bytesCells w tyByte (strOf (unp n s))).size = grownCap w n 0 tyByte := by
            have := grownCap_ge w n 0 tyByte
            unfold Lib.bytesCells
            rw [hsz]
            simp [strOf, unp_len]
            omega
          refine ⟨_, _, rfl, .inr (by rw [hcs]), ?_, hcs, ?_⟩
          · unfold Lib.bytesCells
            rw [Array.toList_append]
            refine List.take_left' ?_ |>.trans ?_
            · simp [strOf, unp_len]
            · simp [strOf, u8s]
          · exact grownCap_le_maxLen w n 0 tyByte (by unfold maxLen; omega)
        · exact run_v (s := convert S T (a.eval x)) (by rw [e]; exact hrun)
        · intro b o hb'
          show (Lib.bytesWorld w tyByte (strOf (unp n s))).heap[b]? = some o
          rw [Lib.bytesWorld_at_old w tyByte _ b (ph_lt hb')]; exact hb'
      · trivial
    · trivial
  · trivial
theorem convert_ok (hx : OpOk F φ l a.eval x) (r : HR F φ h w) : SROk ⟨d, .convert S T x, U, pos, af, g⟩ a.eval F φ h nx w (sConv S T x l h nx) := by
  refine on1_ok hx fun v hv => ?_
  unfold oConv
  split
  · exact conv_int hv r
  · exact conv_str hv.2 hv.1 r
  · rename_i hn1 hn2
    unfold oConvB
    split
    · rename_i hb
      rw [Bool.and_eq_true] at hb
      refine srv_ok fun q hq => ?_
      cases hbs : bytesOf h v with
      | none => rw [hbs] at hq; cases hq
      | some p =>
        obtain ⟨n, s⟩ := p
        rw [hbs] at hq
        cases hq
        obtain ⟨hlt, hc⟩ := bytesOf_ok r hbs hv
        rcases hc with ⟨he, _⟩ | hc
        · exact absurd he (hn2 _ _)
        have hS := hb.1
        unfold isBytesT at hS
        split at hS
        · rename_i E hE
          refine OpM.val (u := .string (strOf (unp n s))) (evA (xs := [x]) (ev_bytes_string (opv_for a (List.mem_singleton.2 rfl)) hc.rds (undT_ok hE) (u8_ok hS) (isStr_ok hb.2))) ⟨Nat.mod_lt _ (pow_pos' n), by rw [unp_mod]⟩ r
        · cases hS
    · trivial
/-! append -/
theorem srcB_ok (e : srcB T = true) : (∃ E, P.underlying T = some (.slice E)) ∨ P.underlying T = some .string := by
  unfold srcB at e
  split at e
  · rename_i hu; exact .inl ⟨_, undT_ok hu⟩
  · rename_i hu; exact .inr (undT_ok hu)
  · cases e
theorem src_w {size m : Nat} {v : Value} {news : List Value} (hk : (∃ E, P.underlying T = some (.slice E)) ∨ P.underlying T = some .string) (hs : SliceV (ph w) size v m news) (h1 : Ones news) : Src P size T v m news w := by
  obtain ⟨hl, a, c, rfl, hn, hc⟩ := hs
  by_cases h0 : 0 < m
  · obtain ⟨b, off, rfl, hw⟩ := hc h0
    exact ⟨hk, fun _ => rfl, run_firstCells_some w size m _ m c news hl hw.world, run_firstCells_some w.drew size m _ m c news hl (by simpa using hw.world), hl, h1⟩
  · have hm : m = 0 := by omega
    subst hm
    have hnil : news = [] := List.eq_nil_of_length_eq_zero (by simpa using hl)
    subst hnil
    cases a with
    | none => exact ⟨hk, fun _ => rfl, run_firstCells_none w size 0 0 c, run_firstCells_none w.drew size 0 0 c, by simp, fun _ h => by cases h⟩
    | some ad => exact ⟨hk, fun _ => rfl, run_firstCells_some w size 0 ad 0 c [] (by simp) (fun j u e => by simp at e), run_firstCells_some w.drew size 0 ad 0 c [] (by simp) (fun j u e => by simp at e), by simp, fun _ h => by cases h⟩
theorem src_s {s : ByteArray} (hk : (∃ E, P.underlying T = some (.slice E)) ∨ P.underlying T = some .string) : Src P 1 T (.string s) s.size (byteCells s) w :=
  ⟨hk, fun _ => rfl, firstCells_string s w, firstCells_string s w.drew, by rw [byteCells_length, Nat.mul_one], fun u hu => by
    obtain ⟨_, _, rfl⟩ := List.mem_map.1 hu
    rfl⟩
theorem byteCells_strOf (bs : List UInt8) : byteCells (strOf bs) = u8s bs := by simp [byteCells, strOf, u8s]
/-- A source of bytes. -/
theorem src_bytes (r : HR F φ h w) {v : AV} {u : Value} {n s : Nat} (hk : (∃ E, P.underlying T = some (.slice E)) ∨ P.underlying T = some .string) (e : bytesOf h v = some (n, s)) (hv : AvD F φ v u) : s < 256 ^ n ∧ Src P 1 T u n (u8s (unp n s)) w := by
  obtain ⟨h1, h2⟩ := bytesOf_ok r e hv
  refine ⟨h1, ?_⟩
  rcases h2 with ⟨_, rfl⟩ | h2
  · have := src_s (w := w) (s := strOf (unp n s)) hk
    rwa [byteCells_strOf, strOf_size, unp_len] at this
  · exact src_w hk h2 (fun u hu => by
      obtain ⟨_, _, rfl⟩ := List.mem_map.1 hu
      rfl)
/-- Cells written where nothing is frozen. -/
theorem run_storeM (g o : Nat) (t : TypeId) (fz : Nat × Nat) : ∀ (vs : List Value) (i : Nat) (cur : Array Value) (w : World), w.heap[g]? = some (.cells cur t fz) → (fz.2 = 0 ∨ cur.size ≤ fz.1) → o + i + vs.length ≤ cur.size → (∀ v ∈ vs, v.oneCell' = true) →
    (storeCells ⟨g, o, none⟩ vs i).run P w = .ok () (w.setRow g (cur.toList.take (o + i) ++ vs ++ cur.toList.drop (o + i + vs.length)).toArray)
  | [], i, cur, w, hg, _, _, _ => by
    simp only [storeCells, List.append_nil, List.length_nil, Nat.add_zero, List.take_append_drop, Array.toArray_toList]
    rw [setRow_self w g cur t fz hg]
    rfl
  | v :: rest, i, cur, w, hg, hfz, hl, h1 => by
    have hi : o + i < cur.size := by simp at hl; omega
    have hadd : (⟨g, o, none⟩ : Addr).add i = ⟨g, o + i, none⟩ := by unfold Addr.add; split <;> simp_all
    have hcell : w.cell? ⟨g, o + i, none⟩ = some cur[o + i] := by simp [World.cell?, hg, hi]
    have hfro : w.frozen? ⟨g, o + i, none⟩ = false := by
      obtain ⟨lo, hi'⟩ := fz
      simp only [World.frozen?, hg, Bool.and_eq_false_iff, decide_eq_false_iff_not]
      simp only at hfz
      omega
    have hst : (store ((⟨g, o, none⟩ : Addr).add i) v).run P w = .ok () (w.setRow g (cur.setIfInBounds (o + i) v)) := by
      rw [hadd, run_store P w _ v _ (h1 v (by simp)), hcell]
      simp [hfro, setCell_eq_setRow w g (o + i) cur t fz v hg]
    have ih := run_storeM g o t fz rest (i + 1) (cur.setIfInBounds (o + i) v) (w.setRow g (cur.setIfInBounds (o + i) v)) (setRow_heap w g cur _ t _ hg) (by simpa using hfz) (by simp at hl ⊢; omega) (fun x hx => h1 x (by simp [hx]))
    simp only [storeCells, Sem.run_bind, hst, Result.andThen_ok, ih, setRow_setRow]
    congr 3
    have e := list_seg_step cur.toList (o + i) v rest (by simp at hl ⊢; omega)
    simpa [Array.toList_setIfInBounds, Nat.add_assoc] using e
/-- 'append' where there is room. -/
theorem run_roomM {t tx ty e n c m size gb : Nat} {i : TypeInfo} {cur : Array Value} {fz : Nat × Nat} {v : Value} {news : List Value} (ht : P.underlying t = some (.slice e)) (hi : P.info? e = some i) (hsz : i.size = size) (hg : w.heap[gb]? = some (.cells cur E fz)) (hfz : fz.2 = 0 ∨ cur.size ≤ fz.1) (hs : Src P size tx v m news w) (hroom : n + m ≤ c) (hcs : cur.size = c * size) :
    (Builtin.append_ #[t, tx] ty #[.slice (some ⟨gb, 0, none⟩) n c, v]).run P w = .ok (.slice (some ⟨gb, 0, none⟩) (n + m) c) (w.setRow gb (cur.toList.take (n * size) ++ news ++ cur.toList.drop (n * size + news.length)).toArray) := by
  subst hsz
  have hfit : n * i.size + news.length ≤ cur.size := by
    rw [hs.newsLen, hcs, ← Nat.add_mul]
    exact Nat.mul_le_mul_right _ hroom
  have hst := run_storeM gb (n * i.size) E fz news 0 cur w hg hfz (by simpa using hfit) hs.one
  simp only [Nat.add_zero] at hst
  rcases hs.kind with ⟨e', hk⟩ | hk <;> simp [Builtin.append_, run_underlying ht, run_underlying hk, sizeOf, typeInfo, hi, hs.len, hroom, hs.cells, Addr.add_lit, hst]
/-- A block that goes on under a new number. -/
theorem HR.move (r : HR F φ h w) {id n b κ : Nat} {o o' : AO} {ob : Obj} {w' : World} (hg : h.get id = some o) (hn : φ id = some (b, κ)) (hnx : φ n = none) (g : ∀ c x, c ≠ b → ph w c = some x → ph w' c = some x) (h1 : ph w' b = some ob) (ho : ObD F (φ.put n (b, κ)) κ o' ob) : HR F (φ.put n (b, κ)) ((h.del id).set o' n) w' where
  obj := fun m o2 c κ' e1 e2 => by
    rw [Hp.get_set] at e1
    by_cases e : m = n
    · subst e
      rw [if_pos rfl] at e1
      cases e1
      rw [Vl.put_self] at e2
      cases e2
      exact ⟨ob, h1, ho⟩
    · rw [if_neg e, Hp.get_del] at e1
      rw [Vl.put_other _ _ e] at e2
      by_cases e' : m = id
      · rw [if_pos e'] at e1; cases e1
      · rw [if_neg e'] at e1
        obtain ⟨ob', a, c'⟩ := r.obj m o2 c κ' e1 e2
        exact ⟨ob', g c _ (fun ec => e' (by subst ec; exact r.inj m id o2 o c κ' κ e1 hg e2 hn)) a, c'.mono (PH.ler _) (Vl.le_put hnx)⟩
  inj := fun m m' o1 o2 c κ1 κ2 e1 e2 e3 e4 => by
    rw [Hp.get_set] at e1 e2
    have k : ∀ {m o1 κ1}, m ≠ n → (if m = n then some o' else (h.del id).get m) = some o1 → (φ.put n (b, κ)) m = some (c, κ1) → m ≠ id ∧ h.get m = some o1 ∧ φ m = some (c, κ1) := fun {m o1 κ1} e e1 e3 => by
      rw [if_neg e, Hp.get_del] at e1
      rw [Vl.put_other _ _ e] at e3
      by_cases e' : m = id
      · rw [if_pos e'] at e1; cases e1
      · rw [if_neg e'] at e1; exact ⟨e', e1, e3⟩
    by_cases a : m = n <;> by_cases a' : m' = n
    · rw [a, a']
    · obtain ⟨q1, q2, q3⟩ := k a' e2 e4
      subst a
      rw [Vl.put_self] at e3
      cases e3
      exact absurd (r.inj m' id _ _ _ _ _ q2 hg q3 hn) q1
    · obtain ⟨q1, q2, q3⟩ := k a e1 e3
      subst a'
      rw [Vl.put_self] at e4
      cases e4
      exact absurd (r.inj m id _ _ _ _ _ q2 hg q3 hn) q1
    · obtain ⟨_, q2, q3⟩ := k a e1 e3
      obtain ⟨_, q2', q3'⟩ := k a' e2 e4
      exact r.inj m m' _ _ c _ _ q2 q2' q3 q3'
  fr := fun c x e => g c x (fun ec => by subst ec; rw [r.dj id o c κ hg hn] at e; cases e) (r.fr c x e)
  dj := fun m o2 c κ' e1 e2 => by
    rw [Hp.get_set] at e1
    by_cases e : m = n
    · subst e
      rw [Vl.put_self] at e2
      cases e2
      exact r.dj id o _ κ hg hn
    · rw [if_neg e, Hp.get_del] at e1
      rw [Vl.put_other _ _ e] at e2
      by_cases e' : m = id
      · rw [if_pos e'] at e1; cases e1
      · rw [if_neg e'] at e1; exact r.dj m o2 c κ' e1 e2
theorem elemOk_ok {sz : Nat} {i : TypeInfo} (e : elemOk E sz = true) (hi : P.info? E = some i) : ∃ zv, i.zero = some zv ∧ zv.cells.size = sz ∧ 0 < sz ∧ i.bytes ≤ 1000000 := by
  unfold elemOk at e
  split at e
  · rename_i z hz
    split at e
    · rename_i q hq
      simp only [Bool.and_eq_true] at e
      obtain ⟨e1, e2, e3⟩ := e
      have e1 := Nat.eq_of_beq_eq_true e1
      have e2 : 0 < sz := Nat.le_of_ble_eq_true e2
      have e3 := Nat.le_of_ble_eq_true e3
      obtain ⟨us, h1, h2⟩ := tzero_ok (F := fun _ => none) (φ := fun _ => none) hz
      obtain ⟨i', zv, hi', hz', hc⟩ := zeroCs_info h1
      rw [hi] at hi'
      cases hi'
      refine ⟨zv, hz', by rw [hc]; simpa [← h2.len] using e1, e2, ?_⟩
      unfold tbytes at hq
      cases hj : infoT E with
      | none => rw [hj] at hq; cases hq
      | some j =>
        rw [hj] at hq
        have := infoT_ok hj
        rw [hi] at this
        cases this
        cases hq
        exact e3
    · cases e
  · cases e
section
variable {c : Call} {u v : Value} {sz n m : Nat} {news : List Value} {ao : AO}
theorem app_exec (hb : c.callee = .builtin .append) (e1 : c.argTypes = #[T, T']) (e2 : c.args.map a.eval = #[u, v]) {r : Value} {w' : World} (hr : (Builtin.append_ #[T, T'] U #[u, v]).run P w = .ok r w') : (execOp a.eval ⟨d, .call c, U, pos, af, g⟩).run P w = .ok (.value r) w' := by
  obtain ⟨cs, e⟩ := builtin_run (U := U) (d := d) (pos := pos) (af := af) (g := g) (w := w) (ρ := a.eval) hb
  rw [e, e1, e2]
  exact run_v hr
/-- A row that had to be laid anew. -/
theorem app_grow {base : Option Addr} {cap : Nat} {olds : List Value} (hb : c.callee = .builtin .append) (e1 : c.argTypes = #[T, T']) (e2 : c.args.map a.eval = #[.slice base n cap, v]) (r : HR F φ h w) (ht : elemSize P T = some (E, sz)) (hk : elemOk E sz = true)
    (hold : (Builtin.firstCells sz n (.slice base n cap)).run P w.drew = .ok olds.toArray w.drew) (hol : olds.length = n * sz) (hs : Src P sz T' v m news w) (hg : cap < n + m) (hnm : n + m ≤ 1000000)
    (ho : ∀ (κ : Nat) (cur : Array Value) (φ' : Vl), φ.le φ' → cur.toList.take ((n + m) * sz) = olds ++ news → cur.size = κ * sz → κ ≤ maxLen → n + m ≤ κ → ObD F φ' κ ao (.cells cur E (0, 0))) :
    SROk ⟨d, .call c, U, pos, af, g⟩ a.eval F φ h nx w (.m (.s (.slc nx 0 (n + m) (.t 0))) (h.set ao nx) (nx + 1)) := by
  obtain ⟨hu, i, hi, hsz⟩ := elemSize_info ht
  obtain ⟨zv, hz, hzs, h0, hby⟩ := elemOk_ok hk hi
  subst hsz
  have hbb : (n + m) * i.bytes ≤ 140737488355328 := Nat.le_trans (Nat.mul_le_mul hnm hby) (by decide)
  have hrun := run_append_grow_src (P := P) w T T' U E i zv hu hi hz base n cap olds hold v m news hs hg (by omega) (growslice_fits hg hbb)
  have hge := grownCap_ge w (n + m) cap E
  have hcm : grownCap w (n + m) cap E ≤ maxLen := grownCap_le_maxLen w (n + m) cap E (by unfold maxLen; omega)
  have hlen : (olds ++ news).length = (n + m) * i.size := by rw [List.length_append, hol, hs.newsLen, Nat.add_mul]
  refine new_okW (grownCap w (n + m) cap E) r (u := .slice (some ⟨w.heap.size, 0, none⟩) (n + m) (grownCap w (n + m) cap E)) (w' := _) (fun φ' _ e => ⟨_, _, e, hge, rfl⟩) (fun φ' hl => ho _ _ φ' hl ?_ ?_ hcm hge) (app_exec hb e1 e2 hrun) (ph_alloc_le w.drew _) (ph_alloc_new w.drew _) ((Mild.drew w).trans (Mild.alloc w.drew _))
  · rw [Array.toList_append, ← hlen]
    exact List.take_left
  · simp only [Array.size_append, List.size_toArray, size_zeroCells, hzs, hlen, ← Nat.add_mul]
    congr 1
    omega
/-- A row that goes on where it lies. -/
theorem app_room {b κ id : Nat} {cur : Array Value} {o : AO} {fz : Nat × Nat} (hb : c.callee = .builtin .append) (e1 : c.argTypes = #[T, T']) (e2 : c.args.map a.eval = #[.slice (some ⟨b, 0, none⟩) n κ, v]) (r : HR F φ h w) (ht : elemSize P T = some (E, sz))
    (hs : Src P sz T' v m news w) (hg : n + m ≤ κ) (hid : h.get id = some o) (hn : φ id = some (b, κ)) (hw : ph w b = some (.cells cur E fz)) (hfz : fz.2 = 0 ∨ cur.size ≤ fz.1) (hcs : cur.size = κ * sz)
    (ho : ∀ (cur' : Array Value) (φ' : Vl), φ.le φ' → cur'.toList.take ((n + m) * sz) = cur.toList.take (n * sz) ++ news → cur'.size = κ * sz → ObD F φ' κ ao (.cells cur' E fz)) :
    SROk ⟨d, .call c, U, pos, af, g⟩ a.eval F φ h nx w (.m (.s (.slc nx 0 (n + m) (.t 0))) ((h.del id).set ao nx) (nx + 1)) := by
  obtain ⟨hu, i, hi, hsz⟩ := elemSize_info ht
  refine ⟨Nat.le_succ _, fun hfr => ?_⟩
  have hnx : φ nx = none := hfr nx (Nat.le_refl _) (Nat.lt_succ_self _)
  have hrun := run_roomM (w := w) (ty := U) hu hi hsz hw hfz hs hg hcs
  have hnl := hs.newsLen
  have hnz : n * sz + news.length ≤ cur.toList.length := by
    rw [hnl, Array.length_toList, hcs, ← Nat.add_mul]
    exact Nat.mul_le_mul_right _ hg
  have htk : (cur.toList.take (n * sz)).length = n * sz := by rw [List.length_take]; omega
  refine ⟨.value _, _, _, F, φ.put nx (b, κ), app_exec hb e1 e2 hrun, .inl rfl, ⟨b, κ, Vl.put_self .., hg, rfl⟩, r.move hid hn hnx (fun q x hq e => ?_) (setRow_heap w b cur _ E fz hw) (ho _ _ (Vl.le_put hnx) ?_ ?_), PH.ler _, Vl.le_put hnx, fun k hk => Vl.put_other _ _ (by omega), Mild.setRow w b _⟩
  · show (w.setRow b _).heap[q]? = some x
    rw [setRow_other w b q _ hq]; exact e
  · refine List.take_left' ?_
    rw [List.length_append, htk, hnl, Nat.add_mul]
  · rw [List.size_toArray, List.length_append, List.length_append, htk, List.length_drop]
    rw [← hcs]
    rw [← Array.length_toList]
    omega
theorem ones_u8s (bs : List UInt8) : Ones (u8s bs) := fun u hu => by
  obtain ⟨_, _, rfl⟩ := List.mem_map.1 hu
  rfl
theorem isSlV_ok {s : AV} (e : isSlV s = true) (hs : AvD F φ s u) : ∃ base k cap, u = .slice base k cap ∧ k ≤ cap := by
  unfold isSlV at e
  split at e
  · exact ⟨_, _, _, hs, Nat.le_refl _⟩
  · obtain ⟨b, κ, _, hc, rfl⟩ := hs
    exact ⟨_, _, _, rfl, hc⟩
  · cases e
/-- Nothing is put behind. -/
theorem app_none {s : AV} (hb : c.callee = .builtin .append) (e1 : c.argTypes = #[T, T']) (e2 : c.args.map a.eval = #[u, v]) (r : HR F φ h w) (ht : elemSize P T = some (E, sz)) (hsl : isSlV s = true) (hu : AvD F φ s u) (hs : Src P sz T' v 0 [] w) : OpM ⟨d, .call c, U, pos, af, g⟩ a.eval F φ nx w s h nx := by
  obtain ⟨hul, i, hi, hsz⟩ := elemSize_info ht
  obtain ⟨base, k, cap, rfl, hk⟩ := isSlV_ok hsl hu
  subst hsz
  exact OpM.val (app_exec hb e1 e2 (run_append_nothing w T T' U E i hul hi base k cap hk v hs)) hu r
theorem bcat_ok {κ : Nat} {p q : Nat × Nat} {cur : Array Value} {fr : Nat × Nat} {φ' : Vl} (h2 : q.2 < 256 ^ q.1) (ht : cur.toList.take (p.1 + q.1) = u8s (unp p.1 p.2) ++ u8s (unp q.1 q.2)) (hf : fr = (0, 0) ∨ fr = (κ, κ + 1)) (hs : cur.size = κ) (hm : κ ≤ maxLen) : ObD F φ' κ (bcat p q) (.cells cur tyByte fr) := by
  refine ⟨cur, fr, rfl, hf, ?_, hs, hm⟩
  rw [ht, unp_cat _ _ _ _ h2]
  simp [u8s]
theorem nil_firsts (k : Nat) (w : World) : (Builtin.firstCells k 0 (.slice none 0 0)).run P w = .ok (([] : List Value)).toArray w := run_firstCells_none w k 0 0 0
theorem slice_firsts {size k : Nat} {u : Value} {cs : List Value} (hs : SliceV (ph w) size u k cs) : (Builtin.firstCells size k u).run P w.drew = .ok cs.toArray w.drew := by
  obtain ⟨hl, a, c, rfl, hn, hc⟩ := hs
  by_cases h0 : 0 < k
  · obtain ⟨b, off, rfl, hw⟩ := hc h0
    exact run_firstCells_some w.drew size k _ k c cs hl (by simpa using hw.world)
  · have hm : k = 0 := by omega
    subst hm
    have hnil : cs = [] := List.eq_nil_of_length_eq_zero (by simpa using hl)
    subst hnil
    cases a with
    | none => exact run_firstCells_none w.drew size 0 0 c
    | some ad => exact run_firstCells_some w.drew size 0 ad 0 c [] (by simp) (fun j u e => by simp at e)
/-- Bytes put behind bytes. -/
theorem appendB_ok {s x : AV} (hb : c.callee = .builtin .append) (e1 : c.argTypes = #[T, T']) (e2 : c.args.map a.eval = #[u, v]) (r : HR F φ h w) (ht : elemSize P T = some (tyByte, 1)) (hk : elemOk tyByte 1 = true) (hT' : (∃ E, P.underlying T' = some (.slice E)) ∨ P.underlying T' = some .string) (hu : AvD F φ s u) (hv : AvD F φ x v) :
    SROk ⟨d, .call c, U, pos, af, g⟩ a.eval F φ h nx w (oAppendB h nx s x) := by
  unfold oAppendB
  split
  · trivial
  · rename_i p hp
    obtain ⟨n, s1⟩ := p
    split
    · trivial
    · rename_i q hq
      obtain ⟨m, s2⟩ := q
      obtain ⟨hl1, hS⟩ := bytesOf_ok r hp hu
      obtain ⟨hl2, hsrc⟩ := src_bytes r hT' hq hv
      split
      · rename_i h0
        have h0 : m = 0 := Nat.eq_of_beq_eq_true h0
        subst h0
        exact gv_ok fun hsl => app_none hb e1 e2 r ht hsl hu hsrc
      · rename_i h0
        have hm0 : m ≠ 0 := fun e => by
          subst e
          exact Bool.noConfusion (h0 : true = false)
        split
        · trivial
        · rename_i hle
          have hle : n + m ≤ 1000000 := Nat.le_of_ble_eq_true hle
          have lay : ∀ {κ : Nat} {cur : Array Value} {φ' : Vl}, cur.toList.take ((n + m) * 1) = u8s (unp n s1) ++ u8s (unp m s2) → cur.size = κ * 1 → κ ≤ maxLen → ObD F φ' κ (bcat (n, s1) (m, s2)) (.cells cur tyByte (0, 0)) := fun h1 h2 h3 =>
            bcat_ok hl2 (by rw [Nat.mul_one] at h1; exact h1) (.inl rfl) (by rw [Nat.mul_one] at h2; exact h2) h3
          split
          · have hu : u = .slice none 0 0 := hu
            subst hu
            cases hp
            refine app_grow hb e1 e2 r ht hk (olds := []) (nil_firsts 1 w.drew) rfl hsrc (by omega) (by omega) fun κ cur φ' _ h1 h2 h3 _ => lay h1 h2 h3
          · rename_i id off k cap
            obtain ⟨b, κ, hb1, hc, rfl⟩ := hu
            rcases hS with ⟨hS, _⟩ | hS
            · cases hS
            have hkn : k = n := by
              obtain ⟨_, _, _, he, _⟩ := hS
              cases he; rfl
            subst hkn
            split
            · rename_i hg
              have hg : cap < k + m := Nat.le_of_ble_eq_true hg
              exact app_grow hb e1 e2 r ht hk (slice_firsts hS) (by simp [u8s, unp_len]) hsrc hg hle fun κ cur φ' _ h1 h2 h3 _ => lay h1 h2 h3
            · trivial
          · rename_i id off k dd
            obtain ⟨b, κ, hb1, hc, rfl⟩ := hu
            rcases hS with ⟨hS, _⟩ | hS
            · cases hS
            have hkn : k = n := by
              obtain ⟨_, _, _, he, _⟩ := hS
              cases he; rfl
            subst hkn
            split
            · rename_i mm xx hid
              split
              · rename_i hq2
                simp only [Bool.and_eq_true] at hq2
                obtain ⟨q1, q2, q3⟩ := hq2
                have q1 : mm = k := Nat.eq_of_beq_eq_true q1
                have q2 : off = 0 := Nat.eq_of_beq_eq_true q2
                have q3 : dd = 0 := Nat.eq_of_beq_eq_true q3
                subst q1 q2 q3
                obtain ⟨ob, hw, cur, fr, rfl, hfr, hp2, hsz, hm⟩ := r.obj _ _ _ _ hid hb1
                have e2 : c.args.map a.eval = #[.slice (some ⟨b, 0, none⟩) mm κ, v] := e2
                by_cases hroom : mm + m ≤ κ
                · refine app_room hb e1 e2 r ht hsrc hroom hid hb1 hw ?_ (by rw [hsz, Nat.mul_one]) fun cur' φ' _ h1 h2 => ?_
                  · rcases hfr with e | e
                    · left; rw [e]
                    · right; rw [e, hsz]; exact Nat.le_refl _
                  · have hps : xx = s1 ∨ True := .inr trivial
                    refine bcat_ok hl2 ?_ hfr (by rw [Nat.mul_one] at h2; exact h2) hm
                    rw [Nat.mul_one, Nat.mul_one] at h1
                    rw [h1]
                    congr 1
                    obtain ⟨_, ad, cc, he, _, hcs⟩ := hS
                    cases he
                    by_cases h0 : 0 < mm
                    · obtain ⟨b', off', he2, hcl⟩ := hcs h0
                      cases he2
                      apply List.ext_getElem?
                      intro j
                      by_cases hj : j < mm
                      · have h3 : (u8s (unp mm s1))[j]? = some ((u8s (unp mm s1))[j]'(by simp [u8s, unp_len]; exact hj)) := List.getElem?_eq_getElem _
                        have h4 := hcl j _ h3
                        rw [h3, List.getElem?_take, if_pos hj]
                        unfold cellF at h4
                        rw [hw] at h4
                        rw [Nat.zero_add] at h4
                        rw [Array.getElem?_toList]
                        exact h4
                      · rw [List.getElem?_eq_none (by rw [List.length_take]; omega), List.getElem?_eq_none (by simp [u8s, unp_len]; omega)]
                    · have : mm = 0 := by omega
                      subst this
                      simp [unp, u8s]
                · have hh := app_grow (d := d) (U := U) (pos := pos) (af := af) (g := g) (nx := nx) hb e1 e2 (r.del id) ht hk (slice_firsts hS) (by simp [u8s, unp_len]) hsrc (by omega) hle fun κ cur φ' _ h1 h2 h3 _ => lay h1 h2 h3
                  exact hh
              · trivial
            · trivial
          · trivial
end
end
end Go.Proofs.YtjjjckmpkldgnaaGreatDoor.Rk
