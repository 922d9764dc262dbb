/-
  The library's Builder, walked: its buffer is a row of the call's own; what String hands out is frozen behind it. Conditions are typed with each.
  Steps as plain data; the words of a line, and the writer that writes them. Conditions are typed with each.
  The writer of numbers, bytes and cores. Conditions are typed with each.
-/
import Derived.Test.YtekdmpbkcjjllaaDoorPb
import Derived.Test.YtekdmpbkcjjllaaDoorOc
import Derived.Test.YtekdmpbkcjjllaaDoorLd
import Derived.Test.YtekdmpbkcjjllaaDoorLf
import Derived.Lib.AppendStr
import Derived.Lib.UnsafeStr
import Derived.Lib.Builder
import Derived.Laws.Externs
import Derived.Test.YtekdmpbkcjjllaaDoorKs
namespace Go.Proofs.YtekdmpbkcjjllaaDoor
open Go.RowKit
set_option maxRecDepth 100000
section
variable {P : Program} {l : Env} {F : PH} {H Hr H' : List Asrt} {d : Option Nat} {T T' U E : TypeId} {pos : String} {af : Array Edge} {g gd : Option (Nat × Bool)} {x y z : Operand}
theorem eb_bytes {bs : List UInt8} (hx : opv l x = some (.string (strOf bs))) : Ev' Tryd.prog ⟨d, .convert 9 26 x, U, pos, af, g⟩ l F H fun u F' H' => Byt F' u bs ∧ H' = H :=
  (ev_string_bytes hx rfl rfl rfl).mono fun v F' H' ⟨_, h2, h3⟩ => ⟨_, ⟨by rw [strOf_size] at h2; exact h2, rfl⟩, fun w s => h3 ▸ s⟩
theorem ev_sneq {bs cs : List UInt8} {r : Bool} (hx : opv l x = some (.string (strOf bs))) (hy : opv l y = some (.string (strOf cs))) (hr : decide (bs = cs) = !r) : Ev P ⟨d, .binOp .neq T x y T', U, pos, af, g⟩ l F H (.bool r) := by
  have := ev_str_neq (P := P) (F := F) (H := H) (d := d) (T := T) (T' := T') (U := U) (pos := pos) (af := af) (g := g) hx hy
  rwa [strOf_toList, strOf_toList, hr, Bool.not_not] at this
theorem ev_seql {bs cs : List UInt8} {r : Bool} (hx : opv l x = some (.string (strOf bs))) (hy : opv l y = some (.string (strOf cs))) (hr : decide (bs = cs) = r) : Ev P ⟨d, .binOp .eql T x y T', U, pos, af, g⟩ l F H (.bool r) := by
  have := ev_str_eql (P := P) (F := F) (H := H) (d := d) (T := T) (T' := T') (U := U) (pos := pos) (af := af) (g := g) hx hy
  rwa [strOf_toList, strOf_toList, hr] at this
theorem ev_cat {a b : List UInt8} (hx : opv l x = some (.string (strOf a))) (hy : opv l y = some (.string (strOf b))) (hl : a.length + b.length ≤ 1000000000) :
    Ev P ⟨d, .binOp .add T x y T', U, pos, af, g⟩ l F H (.string (strOf (a ++ b))) := .of fun ρ hρ w _ => by
  have e1 := hρ _ _ hx; have e2 := hρ _ _ hy
  have h1 : ¬ (((strOf a).size + (strOf b).size : Nat) : Int) > IntKind.i64.max := by
    rw [strOf_size, strOf_size]
    have : (IntKind.i64.max) = 9223372036854775807 := rfl
    omega
  have h2 : strOf a ++ strOf b = strOf (a ++ b) := by
    apply ByteArray.ext
    simp [strOf]
  have h3 : (Op.stringOp .add (strOf a) (strOf b)).run P w = .ok (.string (strOf (a ++ b))) w := by
    unfold Op.stringOp
    dsimp only
    rw [if_neg h1, h2]
    rfl
  refine run_v2 ?_ ?_
  · rw [e1, e2]; simp [eqGuard, go_sem]
  · rw [e1, e2]; simp [binOp, h3]
theorem ev_to_unsafe {t b : Nat} {cs : List Value} (hx : opv l x = some (.pointer (some ⟨b, 0, none⟩))) (p : Pick (blk b E cs) H Hr) (hs : P.underlying T = some (.pointer t)) (hd : P.underlying T' = some .unsafePointer) (ht : (P.info? t).map (·.size) = some 2) (hc : 0 < cs.length) :
    Ev P ⟨d, .convert T T' x, U, pos, af, g⟩ l F H (.pointer (some ⟨b, 0, none⟩)) := .of fun ρ hρ w hw => by
  have e1 := hρ _ _ hx
  obtain ⟨j, hj, hjs⟩ := Option.map_eq_some_iff.1 ht
  have hb := hw.blk_heap p
  refine run_v (s := convert T T' (ρ x)) ?_
  rw [e1]
  exact Lib.run_to_unsafe (P := P) w ⟨b, 0, none⟩ hs hd hj (by rw [hjs]; decide) (e := E) (cells := cs.toArray.size) (by simp [World.shape?, hb]) (by simpa using hc)
theorem ev_from_unsafe {t b : Nat} {cs : List Value} (hx : opv l x = some (.pointer (some ⟨b, 0, none⟩))) (p : Pick (blk b E cs) H Hr) (hs : P.underlying T = some .unsafePointer) (hd : P.underlying T' = some (.pointer t)) (ht : (P.info? t).map (·.size) = some 2) (hl : liesAt P P.depth E (cs.length / P.cellsOf E) 0 t 1 = true) :
    Ev P ⟨d, .convert T T' x, U, pos, af, g⟩ l F H (.pointer (some ⟨b, 0, none⟩)) := .of fun ρ hρ w hw => by
  have e1 := hρ _ _ hx
  obtain ⟨j, hj, hjs⟩ := Option.map_eq_some_iff.1 ht
  have hb := hw.blk_heap p
  refine run_v (s := convert T T' (ρ x)) ?_
  rw [e1]
  exact Lib.run_from_unsafe (P := P) w ⟨b, 0, none⟩ hs hd hj (e := E) (cells := cs.toArray.size) (by simp [World.shape?, hb]) (by simpa using hl)
theorem ev_noEscape {f : FuncId} {fn : Func} {v : Value} {args : List Operand} {tys : Array TypeId} (ha : args = [x]) (hx : opv l x = some v)
    (hf : P.funcs[f]? = some fn) (hname : (fn.name == "runtime.NumGoroutine") = false) (hb : fn.body.isNone = true) (hn : Extern.findNext fn = none) (he : Extern.find fn = some Extern.AbiNoEscape.same) :
    Ev P ⟨d, .call { callee := .value (.func f), args := args.toArray, argTypes := tys }, U, pos, af, g⟩ l F H v := .of fun ρ hρ w hs => by
  subst ha
  have e1 := hρ _ _ hx
  have hcall := run_callFunc_extern hf hname hb hn he #[v] w
  rw [Lib.run_noEscape] at hcall
  have e3 : ρ (.func f) = .func (.func f) #[] #[] := hρ _ _ rfl
  simp only [execOp, resolve, List.map_toArray, List.map_cons, List.map_nil, e1, e3, pure_bind, invoke]
  exact hcall
theorem ev_ptr_neq_same {a : Addr} {t : TypeId} (hx : opv l x = some (.pointer (some a))) (hy : opv l y = some (.pointer (some a))) (hu : P.underlying T = some (.pointer t)) (ht : (P.info? t).isSome = true) : Ev P ⟨d, .binOp .neq T x y T', U, pos, af, g⟩ l F H (.bool false) := .of fun ρ hρ w _ => by
  have e1 := hρ _ _ hx; have e2 := hρ _ _ hy
  obtain ⟨j, hj⟩ := Option.isSome_iff_exists.1 ht
  refine run_v2 ?_ ?_
  · rw [e1, e2]; simp [eqGuard, go_sem]
  · rw [e1, e2]
    exact Lib.run_neq_ptr_same (P := P) w a hu hj
/-- 'append(s, t...)', t a text. -/
theorem ev_append_str {e : TypeId} {v : Value} {bs cs : List UInt8} {K : Value → List Asrt} (hx : opv l x = some v) (hy : opv l y = some (.string (strOf cs))) (hT : P.underlying T = some (.slice e)) (hT' : P.underlying T' = some .string) (hi : (P.info? e).map (fun i => (i.zero, i.size, i.bytes)) = some (some (.int .u8 0), 1, 1))
    (hb : bs.length + cs.length ≤ 1000000000) (hu : ∀ v', Upd (own v e 1 bs.length (u8s bs)) (own v' e 1 (bs ++ cs).length (u8s (bs ++ cs))) H (K v')) :
    Ev' P ⟨d, .call { callee := .builtin .append, args := #[x, y], argTypes := #[T, T'] }, U, pos, af, g⟩ l F H fun u F' H' => F = F' ∧ (u = .slice none 0 0 ↔ v = .slice none 0 0 ∧ cs = []) ∧ H' = K u := .of fun N a w ha hs => by
  obtain ⟨i, hi1, hi2⟩ := Option.map_eq_some_iff.1 hi
  rw [Prod.mk.injEq, Prod.mk.injEq] at hi2
  obtain ⟨hz, hsz, hby⟩ := hi2
  obtain ⟨h, R, ⟨hlen, hA⟩, hd, hle, _, k⟩ := hs.focus (hu v)
  have hown : w.ownsRow 0 e 1 v bs.length (u8s bs) := by
    refine ⟨hlen, ?_⟩
    rcases hA with ⟨e1, e2, _⟩ | ⟨gg, cap, cur, e1, e2, e3, e4, e5, e6⟩
    · exact .inl ⟨e1, e2⟩
    · subst e2
      exact .inr ⟨gg, cap, cur, e1, Nat.zero_le _, hle gg _ ((PH.le_r hd) gg _ (PH.one_self _ _)), e3, e4, e5, e6⟩
  obtain ⟨v', w', hrun, hown', hg, hnil⟩ := Lib.run_append_own_string (P := P) (w := w) 0 T T' U e i hT hT' hi1 hz hsz hby v bs.length (u8s bs) hown (strOf cs) (by rw [strOf_size]; unfold maxLen; omega) (by rw [strOf_size]; omega) (Nat.zero_le _)
  have e1 := ha.opv hx; have e2 := ha.opv hy
  have hcs : u8s bs ++ Lib.strCells (strOf cs) = u8s (bs ++ cs) := by
    rw [u8s_append]; rfl
  rw [hcs, strOf_size, ← List.length_append] at hown'
  rw [strOf_size, List.length_eq_zero_iff] at hnil
  refine ⟨.value v', w', v', F, K v', ?_, .inl rfl, Mild.grown hg, PH.ler F, ⟨rfl, hnil, rfl⟩, ?_⟩
  · generalize a.eval = ρ at e1 e2 ⊢
    simp only [execOp, resolve, List.map_toArray, List.map_cons, List.map_nil, e1, e2, pure_bind, invoke, builtin]
    exact run_v hrun
  · obtain ⟨h, R, ⟨hlen2, hA2⟩, hd, hle, _, k⟩ := hs.focus (hu v')
    have hRown : ∀ j o, R j = some o → some j ≠ v.ownBlock ∧ j < w.heap.size := by
      intro j o hj
      refine ⟨fun e => ?_, ph_lt (hle j o ((PH.le_l _ _) j o hj))⟩
      rcases hA2 with ⟨e1, _, _⟩ | ⟨gg, cap, cur, e1, e2, _⟩
      · subst e1; simp [Value.ownBlock] at e
      · subst e1; simp [Value.ownBlock] at e; subst e; subst e2
        rcases hd j with e | e
        · rw [e] at hj; cases hj
        · rw [PH.one_self] at e; cases e
    have hR' : R.le (ph w') := fun j o hj => by
      obtain ⟨h1, h2⟩ := hRown j o hj
      show w'.heap[j]? = some o
      rw [hg.block j h2 h1]
      exact hle j o ((PH.le_l _ _) j o hj)
    rcases hown'.2 with ⟨e1, e2⟩ | ⟨gg, cap, cur, e1, _, e3, e4, e5, e6, e7⟩
    · exact k PH.emp w' ⟨hown'.1, .inl ⟨e1, e2, rfl⟩⟩ (PH.dj_emp _) (by rw [PH.un_emp]; exact hR')
    · refine k (PH.one gg (.cells cur e (0, 0))) w' ⟨hown'.1, .inr ⟨gg, cap, cur, e1, rfl, e4, e5, e6, e7⟩⟩ (PH.dj_one ?_) (PH.un_le hR' (PH.one_le e3))
      cases hj : R gg with
      | none => rfl
      | some o =>
        obtain ⟨h1, h2⟩ := hRown gg o hj
        subst e1
        rcases hown.2 with ⟨q1, q2⟩ | ⟨g0, cap0, cur0, q1, _, q3, q4, q5, q6, q7⟩
        · have hx0 : u8s bs = [] := List.eq_nil_of_length_eq_zero (by rw [u8s_len]; exact q2)
          obtain ⟨v2, w2, hrun2, hown2, _, _⟩ := Lib.run_append_own_string (P := P) (w := w) w.heap.size T T' U e i hT hT' hi1 hz hsz hby v bs.length (u8s bs) ⟨hlen, .inl ⟨q1, q2⟩⟩ (strOf cs) (by rw [strOf_size]; unfold maxLen; omega) (by rw [strOf_size]; omega) (Nat.le_refl _)
          have hv := (Result.ok.inj (hrun.symm.trans hrun2)).1
          rcases hown2.2 with ⟨e1, _⟩ | ⟨g2, cap2, cur2, e1, h3, _⟩
          · rw [e1] at hv; cases hv
          · rw [e1] at hv
            have hb := congrArg Value.ownBlock hv
            simp [Value.ownBlock] at hb
            omega
        · subst q1
          by_cases hroom : bs.length + (strOf cs).size ≤ cap0
          · have hr := Lib.run_append_room_string (P := P) (w := w) T T' U e i hT hT' hi1 hsz g0 bs.length cap0 cur0 q3 (strOf cs) hroom (by rw [q6]; omega)
            have hb := congrArg Value.ownBlock (Result.ok.inj (hrun.symm.trans hr)).1
            simp [Value.ownBlock] at hb h1
            exact absurd hb h1
          · have holds : ∀ j u, (u8s bs)[j]? = some u → w.cell? ((⟨g0, 0, none⟩ : Addr).add j) = some u := hown.cells (g := g0) rfl
            have hsz2 := strOf_size cs
            have hr := Lib.run_append_grow_string (P := P) (w := w) T T' U e i (.int .u8 0) hT hT' hi1 hz ⟨g0, 0, none⟩ bs.length cap0 (u8s bs) (by rw [hsz, u8s_len]; omega) holds (strOf cs) (by omega) (by omega) (by rw [hby]; exact growslice_fits (by omega) (by omega))
            have hb := congrArg Value.ownBlock (Result.ok.inj (hrun.symm.trans hr)).1
            simp [Value.ownBlock] at hb
            omega
theorem ev_sliceData {a : Option Addr} {n c : Nat} (hx : opv l x = some (.slice a n c)) (h : a = none ∨ c ≠ 0) : Ev P ⟨d, .call { callee := .builtin .unsafeSliceData, args := #[x], argTypes := #[T] }, U, pos, af, g⟩ l F H (.pointer a) := .of fun ρ hρ w _ => by
  have e1 := hρ _ _ hx
  have hrun : (Builtin.unsafeSliceData_ #[T] U #[.slice a n c]).run P w = .ok (Value.pointer a) w := by
    cases a with
    | none => rfl
    | some a =>
      have hc : c ≠ 0 := by
        rcases h with h | h
        · cases h
        · exact h
      show Sem.run P (if c ≠ 0 then (pure (Value.pointer (some a)) : Sem Value) else _) w = _
      rw [if_pos hc]
      rfl
  simp only [execOp, resolve, List.map_toArray, List.map_cons, List.map_nil, e1, pure_bind, invoke, builtin]
  exact run_v hrun
theorem ev_unsafeString0 {p : Option Addr} (hx : opv l x = some (.pointer p)) (hy : opv l y = some (.int .i64 0)) : Ev P ⟨d, .call { callee := .builtin .unsafeString, args := #[x, y], argTypes := #[T, T'] }, U, pos, af, g⟩ l F H (.string (strOf [])) := .of fun ρ hρ w _ => by
  have e1 := hρ _ _ hx; have e2 := hρ _ _ hy
  simp only [execOp, resolve, List.map_toArray, List.map_cons, List.map_nil, e1, e2, pure_bind, invoke, builtin]
  exact run_v (Lib.run_unsafeString_none (P := P) w T T' U p)
/-- A row of the call's own of which some bytes are a text's. -/
def ownZ (v : Value) (E size n : Nat) (xs : List Value) : Asrt := fun h => xs.length = n * size ∧
  ((v = .slice none 0 0 ∧ n = 0 ∧ h = PH.emp) ∨
   ∃ g cap cur fr, v = .slice (some ⟨g, 0, none⟩) n cap ∧ h = PH.one g (.cells cur E fr) ∧ n ≤ cap ∧ cap ≤ maxLen ∧ cur.size = cap * size ∧ cur.toList.take (n * size) = xs)
theorem own_ownZ {v : Value} {E size n : Nat} {xs : List Value} : ∀ h, own v E size n xs h → ownZ v E size n xs h := fun h ⟨h1, h2⟩ => by
  rcases h2 with h2 | ⟨g, cap, cur, e1, e2, e3⟩
  · exact ⟨h1, .inl h2⟩
  · exact ⟨h1, .inr ⟨g, cap, cur, _, e1, e2, e3⟩⟩
theorem ev_unsafeString {g0 c : Nat} {bs : List UInt8} {H' : List Asrt} (hx : opv l x = some (.pointer (some ⟨g0, 0, none⟩))) (hy : opv l y = some (.int .i64 bs.length)) (hp : P.underlying T = some (.pointer E)) (hc : P.cellsOf E = 1) (h0 : bs ≠ [])
    (hu : Upd (ownZ (.slice (some ⟨g0, 0, none⟩) bs.length c) E 1 bs.length (u8s bs)) (ownZ (.slice (some ⟨g0, 0, none⟩) bs.length c) E 1 bs.length (u8s bs)) H H') :
    Ev' P ⟨d, .call { callee := .builtin .unsafeString, args := #[x, y], argTypes := #[T, T'] }, U, pos, af, g⟩ l F H fun u F' H2 => F = F' ∧ u = .string (strOf bs) ∧ H2 = H' := .of fun N a w ha hs => by
  have e1 := ha.opv hx; have e2 := ha.opv hy
  obtain ⟨h, R, ⟨hlen, hA⟩, hd, hle, _, k⟩ := hs.focus hu
  rcases hA with ⟨q, _, _⟩ | ⟨gg, cap, cur, fr, q1, q2, q3, q4, q5, q6⟩
  · cases q
  have hgg : g0 = gg := by
    have := congrArg Value.ownBlock q1
    simpa [Value.ownBlock] using this
  subst hgg
  have hcc : c = cap := by injection q1
  subst hcc
  subst q2
  have hb : w.heap[g0]? = some (.cells cur E fr) := hle g0 _ ((PH.le_r hd) g0 _ (PH.one_self _ _))
  rw [Nat.mul_one] at q5 q6
  have hcell : ∀ j u, bs[j]? = some u → w.cell? ((⟨g0, 0, none⟩ : Addr).add j) = some (.int .u8 u.toNat) := fun j u hj => by
    rw [adr_add]
    have h1 : (u8s bs)[j]? = some (.int .u8 u.toNat) := by simp [u8s, hj]
    rw [← q6, List.getElem?_take] at h1
    split at h1
    · have h2 : cur[j]? = some (.int .u8 u.toNat) := by simpa using h1
      simp [World.cell?, hb, h2]
    · cases h1
  have hrun := Lib.run_unsafeString_row (P := P) w T T' U E hp hc g0 cur.size (by simp [World.shape?, hb]) bs h0 (by omega) (by unfold maxLen at q4; omega) hcell
  refine ⟨.value (.string (strOf bs)), w.freeze ⟨g0, 0, none⟩ bs.length, .string (strOf bs), F, H', ?_, .inl rfl, ?_, PH.ler F, ⟨rfl, rfl, rfl⟩, ?_⟩
  · generalize a.eval = ρ at e1 e2 ⊢
    simp only [execOp, resolve, List.map_toArray, List.map_cons, List.map_nil, e1, e2, pure_bind, invoke, builtin]
    exact run_v hrun
  · refine ⟨?_, ?_, ?_, ?_⟩ <;> (unfold World.freeze; split <;> simp)
  · have hl0 : bs.length ≠ 0 := by simpa using h0
    obtain ⟨fr', hfr⟩ : ∃ fr', (w.freeze ⟨g0, 0, none⟩ bs.length).heap[g0]? = some (.cells cur E fr') := by
      unfold World.freeze
      rw [if_neg hl0]
      obtain ⟨lo, hi⟩ := fr
      exact ⟨_, by simp [Array.getElem?_modify, hb]; rfl⟩
    have hR : R g0 = none := by
      rcases hd g0 with e | e
      · exact e
      · rw [PH.one_self] at e; cases e
    refine k (PH.one g0 (.cells cur E fr')) _ ⟨hlen, .inr ⟨g0, c, cur, fr', rfl, rfl, q3, q4, by omega, by rw [Nat.mul_one]; exact q6⟩⟩ (PH.dj_one hR) (PH.un_le (fun j o e => ?_) (PH.one_le hfr))
    have hne : j ≠ g0 := fun ec => by subst ec; rw [hR] at e; cases e
    show (w.freeze ⟨g0, 0, none⟩ bs.length).heap[j]? = some o
    unfold World.freeze
    rw [if_neg hl0]
    simp only [Array.getElem?_modify]
    rw [if_neg (by omega)]
    exact hle j o ((PH.le_l _ _) j o e)
end
/-! ### the builder -/
def pW (b : Nat) : Value := .pointer (some ⟨b, 0, none⟩)
/-- A writer's memory: what is written. -/
def bld (b : Nat) (p v : Value) (bs : List UInt8) : List Asrt := [blk b 56 [p, v], bytes v bs]
def BldOk (b : Nat) (p v : Value) (bs : List UInt8) : Prop := (p = .pointer none ∨ p = pW b) ∧ (bs = [] → v = .slice none 0 0)
set_option maxHeartbeats 1000000 in
theorem copyCheck_spec (b : Nat) (p v : Value) (bs : List UInt8) (F : PH) (h : BldOk b p v bs) : Spec Tryd.prog 66 [pW b] F (bld b p v bs) fun u _ H' => u = .tuple #[] ∧ H' = bld b (pW b) v bs := by
  refine Spec.of1 Tryd.func66 rfl rfl fun X w0 => ?_
  show J _ _ _ _ (blk b 56 [p, v] :: bytes v bs :: X)
  unfold pW
  rcases h.1 with rfl | rfl
  · repeat (first|refine zJ rfl rfl ?_|refine jr rfl ?_|refine jn ?_|refine zM rfl rfl ?_|(refine zC rfl rfl ?_ rfl ?_;omega)|(refine zD rfl rfl ?_ rfl ?_;omega)|(refine zP rfl ?_ rfl ?_;omega)|refine zG rfl rfl rfl rfl ?_|(refine jdq rfl rfl ?_ ?_ ?_;kernel_rfl;kernel_rfl)|refine zB rfl rfl rfl (by repeat constructor) rfl ?_|refine zH .here rfl rfl rfl rfl ?_|refine zH (.there .here) rfl rfl rfl rfl ?_|refine zH (.there (.there .here)) rfl rfl rfl rfl ?_|refine zH (.there (.there (.there .here))) rfl rfl rfl rfl ?_|refine zH (.there (.there (.there (.there .here)))) rfl rfl rfl rfl ?_)
    refine oS (ev_to_unsafe (t := 54) rfl .here rfl rfl rfl (by simp)) rfl ?_
    refine oS (ev_noEscape rfl rfl Tryd.func75 (by kernel_rfl) (by kernel_rfl) (by kernel_rfl) (by kernel_rfl)) rfl ?_
    refine oS (ev_from_unsafe (t := 54) rfl .here rfl rfl rfl (by kernel_rfl)) rfl ?_
    repeat (first|refine zJ rfl rfl ?_|refine jr rfl ?_|refine jn ?_|refine zM rfl rfl ?_|(refine zC rfl rfl ?_ rfl ?_;omega)|(refine zD rfl rfl ?_ rfl ?_;omega)|(refine zP rfl ?_ rfl ?_;omega)|refine zG rfl rfl rfl rfl ?_|(refine jdq rfl rfl ?_ ?_ ?_;kernel_rfl;kernel_rfl)|refine zB rfl rfl rfl (by repeat constructor) rfl ?_|refine zH .here rfl rfl rfl rfl ?_|refine zH (.there .here) rfl rfl rfl rfl ?_|refine zH (.there (.there .here)) rfl rfl rfl rfl ?_|refine zH (.there (.there (.there .here))) rfl rfl rfl rfl ?_|refine zH (.there (.there (.there (.there .here)))) rfl rfl rfl rfl ?_)
    refine oN (ev_store rfl rfl .pointer rfl rfl (.put .nil) (ones_cons rfl ones_nil) .here) rfl ?_
    rintro _ _ _ _ ⟨rfl, _, rfl⟩
    repeat (first|refine zJ rfl rfl ?_|refine jr rfl ?_|refine jn ?_|refine zM rfl rfl ?_|(refine zC rfl rfl ?_ rfl ?_;omega)|(refine zD rfl rfl ?_ rfl ?_;omega)|(refine zP rfl ?_ rfl ?_;omega)|refine zG rfl rfl rfl rfl ?_|(refine jdq rfl rfl ?_ ?_ ?_;kernel_rfl;kernel_rfl)|refine zB rfl rfl rfl (by repeat constructor) rfl ?_|refine zH .here rfl rfl rfl rfl ?_|refine zH (.there .here) rfl rfl rfl rfl ?_|refine zH (.there (.there .here)) rfl rfl rfl rfl ?_|refine zH (.there (.there (.there .here))) rfl rfl rfl rfl ?_|refine zH (.there (.there (.there (.there .here)))) rfl rfl rfl rfl ?_)
    exact J_fin rfl (bld b (pW b) v bs) (fun w s => s) (PH.ler _) ⟨rfl, rfl⟩
  · unfold pW
    repeat (first|refine zJ rfl rfl ?_|refine jr rfl ?_|refine jn ?_|refine zM rfl rfl ?_|(refine zC rfl rfl ?_ rfl ?_;omega)|(refine zD rfl rfl ?_ rfl ?_;omega)|(refine zP rfl ?_ rfl ?_;omega)|refine zG rfl rfl rfl rfl ?_|(refine jdq rfl rfl ?_ ?_ ?_;kernel_rfl;kernel_rfl)|refine zB rfl rfl rfl (by repeat constructor) rfl ?_|refine zH .here rfl rfl rfl rfl ?_|refine zH (.there .here) rfl rfl rfl rfl ?_|refine zH (.there (.there .here)) rfl rfl rfl rfl ?_|refine zH (.there (.there (.there .here))) rfl rfl rfl rfl ?_|refine zH (.there (.there (.there (.there .here)))) rfl rfl rfl rfl ?_)
    refine oS (ev_ptr_neq_same rfl rfl rfl rfl) rfl ?_
    repeat (first|refine zJ rfl rfl ?_|refine jr rfl ?_|refine jn ?_|refine zM rfl rfl ?_|(refine zC rfl rfl ?_ rfl ?_;omega)|(refine zD rfl rfl ?_ rfl ?_;omega)|(refine zP rfl ?_ rfl ?_;omega)|refine zG rfl rfl rfl rfl ?_|(refine jdq rfl rfl ?_ ?_ ?_;kernel_rfl;kernel_rfl)|refine zB rfl rfl rfl (by repeat constructor) rfl ?_|refine zH .here rfl rfl rfl rfl ?_|refine zH (.there .here) rfl rfl rfl rfl ?_|refine zH (.there (.there .here)) rfl rfl rfl rfl ?_|refine zH (.there (.there (.there .here))) rfl rfl rfl rfl ?_|refine zH (.there (.there (.there (.there .here)))) rfl rfl rfl rfl ?_)
    refine zE rfl ?_
    exact J_fin rfl (bld b (pW b) v bs) (fun w s => s) (PH.ler _) ⟨rfl, rfl⟩
theorem bLen_spec (b : Nat) (p v : Value) (bs : List UInt8) (F : PH) : Spec Tryd.prog 47 [pW b] F (bld b p v bs) fun u _ H' => u = .int .i64 bs.length ∧ H' = bld b p v bs := by
  refine Spec.of1 Tryd.func47 rfl rfl fun X w0 => ?_
  show J _ _ _ _ (blk b 56 [p, v] :: bytes v bs :: X)
  refine jOwn (.there .here) fun a c hv _ _ _ => ?_
  subst hv
  unfold pW
  repeat (first|refine zJ rfl rfl ?_|refine jr rfl ?_|refine jn ?_|refine zM rfl rfl ?_|(refine zC rfl rfl ?_ rfl ?_;omega)|(refine zD rfl rfl ?_ rfl ?_;omega)|(refine zP rfl ?_ rfl ?_;omega)|refine zG rfl rfl rfl rfl ?_|(refine jdq rfl rfl ?_ ?_ ?_;kernel_rfl;kernel_rfl)|refine zB rfl rfl rfl (by repeat constructor) rfl ?_|refine zH .here rfl rfl rfl rfl ?_|refine zH (.there .here) rfl rfl rfl rfl ?_|refine zH (.there (.there .here)) rfl rfl rfl rfl ?_|refine zH (.there (.there (.there .here))) rfl rfl rfl rfl ?_|refine zH (.there (.there (.there (.there .here)))) rfl rfl rfl rfl ?_)
  exact J_ret1 rfl rfl (bld b p (.slice a bs.length c) bs) rfl (PH.ler _) ⟨rfl, rfl⟩
set_option maxHeartbeats 1000000 in
theorem writeByte_spec (b : Nat) (p v : Value) (bs : List UInt8) (x : UInt8) (F : PH) (h : BldOk b p v bs) (hl : bs.length ≤ 100000000) : Spec Tryd.prog 48 [pW b, .int .u8 x.toNat] F (bld b p v bs) fun _ _ H' => ∃ v', H' = bld b (pW b) v' (bs ++ [x]) ∧ BldOk b (pW b) v' (bs ++ [x]) := by
  refine Spec.of2 Tryd.func48 rfl rfl fun X w0 => ?_
  repeat (first|refine zJ rfl rfl ?_|refine jr rfl ?_|refine jn ?_|refine zM rfl rfl ?_|(refine zC rfl rfl ?_ rfl ?_;omega)|(refine zD rfl rfl ?_ rfl ?_;omega)|(refine zP rfl ?_ rfl ?_;omega)|refine zG rfl rfl rfl rfl ?_|(refine jdq rfl rfl ?_ ?_ ?_;kernel_rfl;kernel_rfl)|refine zB rfl rfl rfl (by repeat constructor) rfl ?_|refine zH .here rfl rfl rfl rfl ?_|refine zH (.there .here) rfl rfl rfl rfl ?_|refine zH (.there (.there .here)) rfl rfl rfl rfl ?_|refine zH (.there (.there (.there .here))) rfl rfl rfl rfl ?_|refine zH (.there (.there (.there (.there .here)))) rfl rfl rfl rfl ?_)
  refine oC (Hc := bld b p v bs) (Hr := X) (copyCheck_spec b p v bs F h) Tryd.call66 rfl rfl (fun _ s => s) ?_
  rintro _ F1 _ hF1 ⟨rfl, rfl⟩
  show JM _ _ _ _ _ _ _ (blk b 56 [pW b, v] :: bytes v bs :: X)
  unfold pW
  repeat (first|refine zJ rfl rfl ?_|refine jr rfl ?_|refine jn ?_|refine zM rfl rfl ?_|(refine zC rfl rfl ?_ rfl ?_;omega)|(refine zD rfl rfl ?_ rfl ?_;omega)|(refine zP rfl ?_ rfl ?_;omega)|refine zG rfl rfl rfl rfl ?_|(refine jdq rfl rfl ?_ ?_ ?_;kernel_rfl;kernel_rfl)|refine zB rfl rfl rfl (by repeat constructor) rfl ?_|refine zH .here rfl rfl rfl rfl ?_|refine zH (.there .here) rfl rfl rfl rfl ?_|refine zH (.there (.there .here)) rfl rfl rfl rfl ?_|refine zH (.there (.there (.there .here))) rfl rfl rfl rfl ?_|refine zH (.there (.there (.there (.there .here)))) rfl rfl rfl rfl ?_)
  refine ob_push (b := x) (bs := bs) (K := fun v' => blk b 56 [.pointer (some ⟨b, 0, none⟩), v] :: bytes v' (bs ++ [x]) :: X) rfl (fun _ => rfl) rfl (by omega) (fun v' => .there .here) rfl (fun _ => rfl) fun u w => ?_
  refine oOwn (.there .here) fun a c hv _ _ _ => ?_
  subst hv
  repeat (first|refine zJ rfl rfl ?_|refine jr rfl ?_|refine jn ?_|refine zM rfl rfl ?_|(refine zC rfl rfl ?_ rfl ?_;omega)|(refine zD rfl rfl ?_ rfl ?_;omega)|(refine zP rfl ?_ rfl ?_;omega)|refine zG rfl rfl rfl rfl ?_|(refine jdq rfl rfl ?_ ?_ ?_;kernel_rfl;kernel_rfl)|refine zB rfl rfl rfl (by repeat constructor) rfl ?_|refine zH .here rfl rfl rfl rfl ?_|refine zH (.there .here) rfl rfl rfl rfl ?_|refine zH (.there (.there .here)) rfl rfl rfl rfl ?_|refine zH (.there (.there (.there .here))) rfl rfl rfl rfl ?_|refine zH (.there (.there (.there (.there .here)))) rfl rfl rfl rfl ?_)
  refine oN (ev_store rfl rfl .slice rfl rfl (.skip (.put .nil)) (ones_cons rfl ones_nil) .here) rfl ?_
  rintro _ _ _ _ ⟨rfl, _, rfl⟩
  repeat (first|refine zJ rfl rfl ?_|refine jr rfl ?_|refine jn ?_|refine zM rfl rfl ?_|(refine zC rfl rfl ?_ rfl ?_;omega)|(refine zD rfl rfl ?_ rfl ?_;omega)|(refine zP rfl ?_ rfl ?_;omega)|refine zG rfl rfl rfl rfl ?_|(refine jdq rfl rfl ?_ ?_ ?_;kernel_rfl;kernel_rfl)|refine zB rfl rfl rfl (by repeat constructor) rfl ?_|refine zH .here rfl rfl rfl rfl ?_|refine zH (.there .here) rfl rfl rfl rfl ?_|refine zH (.there (.there .here)) rfl rfl rfl rfl ?_|refine zH (.there (.there (.there .here))) rfl rfl rfl rfl ?_|refine zH (.there (.there (.there (.there .here)))) rfl rfl rfl rfl ?_)
  exact J_ret1 rfl rfl (bld b (pW b) (.slice a (bs ++ [x]).length c) (bs ++ [x])) rfl hF1 ⟨_, rfl, .inr rfl, fun e => by simp at e⟩
set_option maxHeartbeats 1000000 in
theorem writeString_spec (b : Nat) (p v : Value) (bs cs : List UInt8) (F : PH) (h : BldOk b p v bs) (hl : bs.length + cs.length ≤ 100000000) : Spec Tryd.prog 49 [pW b, .string (strOf cs)] F (bld b p v bs) fun _ _ H' => ∃ v', H' = bld b (pW b) v' (bs ++ cs) ∧ BldOk b (pW b) v' (bs ++ cs) := by
  refine Spec.of2 Tryd.func49 rfl rfl fun X w0 => ?_
  repeat (first|refine zJ rfl rfl ?_|refine jr rfl ?_|refine jn ?_|refine zM rfl rfl ?_|(refine zC rfl rfl ?_ rfl ?_;omega)|(refine zD rfl rfl ?_ rfl ?_;omega)|(refine zP rfl ?_ rfl ?_;omega)|refine zG rfl rfl rfl rfl ?_|(refine jdq rfl rfl ?_ ?_ ?_;kernel_rfl;kernel_rfl)|refine zB rfl rfl rfl (by repeat constructor) rfl ?_|refine zH .here rfl rfl rfl rfl ?_|refine zH (.there .here) rfl rfl rfl rfl ?_|refine zH (.there (.there .here)) rfl rfl rfl rfl ?_|refine zH (.there (.there (.there .here))) rfl rfl rfl rfl ?_|refine zH (.there (.there (.there (.there .here)))) rfl rfl rfl rfl ?_)
  refine oC (Hc := bld b p v bs) (Hr := X) (copyCheck_spec b p v bs F h) Tryd.call66 rfl rfl (fun _ s => s) ?_
  rintro _ F1 _ hF1 ⟨rfl, rfl⟩
  show JM _ _ _ _ _ _ _ (blk b 56 [pW b, v] :: bytes v bs :: X)
  unfold pW
  repeat (first|refine zJ rfl rfl ?_|refine jr rfl ?_|refine jn ?_|refine zM rfl rfl ?_|(refine zC rfl rfl ?_ rfl ?_;omega)|(refine zD rfl rfl ?_ rfl ?_;omega)|(refine zP rfl ?_ rfl ?_;omega)|refine zG rfl rfl rfl rfl ?_|(refine jdq rfl rfl ?_ ?_ ?_;kernel_rfl;kernel_rfl)|refine zB rfl rfl rfl (by repeat constructor) rfl ?_|refine zH .here rfl rfl rfl rfl ?_|refine zH (.there .here) rfl rfl rfl rfl ?_|refine zH (.there (.there .here)) rfl rfl rfl rfl ?_|refine zH (.there (.there (.there .here))) rfl rfl rfl rfl ?_|refine zH (.there (.there (.there (.there .here)))) rfl rfl rfl rfl ?_)
  refine oE (ev_append_str (bs := bs) (cs := cs) (K := fun v' => blk b 56 [.pointer (some ⟨b, 0, none⟩), v] :: bytes v' (bs ++ cs) :: X) rfl rfl rfl rfl rfl (by omega) (fun v' => .there .here)) rfl ?_
  rintro u _ _ _ ⟨rfl, hn, rfl⟩
  refine oOwn (.there .here) fun a c hv _ _ _ => ?_
  subst hv
  repeat (first|refine zJ rfl rfl ?_|refine jr rfl ?_|refine jn ?_|refine zM rfl rfl ?_|(refine zC rfl rfl ?_ rfl ?_;omega)|(refine zD rfl rfl ?_ rfl ?_;omega)|(refine zP rfl ?_ rfl ?_;omega)|refine zG rfl rfl rfl rfl ?_|(refine jdq rfl rfl ?_ ?_ ?_;kernel_rfl;kernel_rfl)|refine zB rfl rfl rfl (by repeat constructor) rfl ?_|refine zH .here rfl rfl rfl rfl ?_|refine zH (.there .here) rfl rfl rfl rfl ?_|refine zH (.there (.there .here)) rfl rfl rfl rfl ?_|refine zH (.there (.there (.there .here))) rfl rfl rfl rfl ?_|refine zH (.there (.there (.there (.there .here)))) rfl rfl rfl rfl ?_)
  refine oN (ev_store rfl rfl .slice rfl rfl (.skip (.put .nil)) (ones_cons rfl ones_nil) .here) rfl ?_
  rintro _ _ _ _ ⟨rfl, _, rfl⟩
  repeat (first|refine zJ rfl rfl ?_|refine jr rfl ?_|refine jn ?_|refine zM rfl rfl ?_|(refine zC rfl rfl ?_ rfl ?_;omega)|(refine zD rfl rfl ?_ rfl ?_;omega)|(refine zP rfl ?_ rfl ?_;omega)|refine zG rfl rfl rfl rfl ?_|(refine jdq rfl rfl ?_ ?_ ?_;kernel_rfl;kernel_rfl)|refine zB rfl rfl rfl (by repeat constructor) rfl ?_|refine zH .here rfl rfl rfl rfl ?_|refine zH (.there .here) rfl rfl rfl rfl ?_|refine zH (.there (.there .here)) rfl rfl rfl rfl ?_|refine zH (.there (.there (.there .here))) rfl rfl rfl rfl ?_|refine zH (.there (.there (.there (.there .here)))) rfl rfl rfl rfl ?_)
  refine J_ret2 rfl rfl rfl (bld b (pW b) (.slice a (bs ++ cs).length c) (bs ++ cs)) rfl hF1 ⟨_, rfl, .inr rfl, fun e => ?_⟩
  obtain ⟨rfl, rfl⟩ := List.append_eq_nil_iff.1 e
  exact hn.2 ⟨h.2 rfl, rfl⟩
/-- The same, some bytes frozen. -/
def bldZ (b : Nat) (p v : Value) (bs : List UInt8) : List Asrt := [blk b 56 [p, v], ownZ v 5 1 bs.length (u8s bs)]
theorem bld_Z {F : PH} {b : Nat} {p v : Value} {bs : List UInt8} {X : List Asrt} {w : World} (s : Sat F (bld b p v bs ++ X) w) : Sat F (bldZ b p v bs ++ X) w := by
  have s1 : Sat F (bytes v bs :: blk b 56 [p, v] :: X) w := s.pick (.there .here)
  have s2 := s1.turn own_ownZ
  exact s2.unpick (.there .here)
set_option maxHeartbeats 2000000 in
theorem bString_spec (b : Nat) (p v : Value) (bs : List UInt8) (F : PH) (h : BldOk b p v bs) : Spec Tryd.prog 25 [pW b] F (bldZ b p v bs) fun u _ H' => u = .string (strOf bs) ∧ H' = bldZ b p v bs := by
  refine Spec.of1 Tryd.func25 rfl rfl fun X w0 => ?_
  show J _ _ _ _ (blk b 56 [p, v] :: ownZ v 5 1 bs.length (u8s bs) :: X)
  unfold pW
  refine jWith (.there .here) (q := ∃ a c, v = .slice a bs.length c ∧ ((a = none ∧ bs = []) ∨ ∃ g, a = some ⟨g, 0, none⟩ ∧ bs.length ≤ c)) (fun h' ⟨hl, hA⟩ => ?_) fun ⟨a, c, hv, hf⟩ => ?_
  · rcases hA with ⟨e, e2, _⟩ | ⟨g, cap, cur, fr, e, _, h2, _⟩
    · exact ⟨none, 0, by rw [e, e2], .inl ⟨rfl, List.eq_nil_of_length_eq_zero e2⟩⟩
    · exact ⟨_, cap, e, .inr ⟨g, rfl, h2⟩⟩
  subst hv
  by_cases h0 : bs = []
  · have hn := h.2 h0
    subst h0
    cases hn
    repeat (first|refine zJ rfl rfl ?_|refine jr rfl ?_|refine jn ?_|refine zM rfl rfl ?_|(refine zC rfl rfl ?_ rfl ?_;omega)|(refine zD rfl rfl ?_ rfl ?_;omega)|(refine zP rfl ?_ rfl ?_;omega)|refine zG rfl rfl rfl rfl ?_|(refine jdq rfl rfl ?_ ?_ ?_;kernel_rfl;kernel_rfl)|refine zB rfl rfl rfl (by repeat constructor) rfl ?_|refine zH .here rfl rfl rfl rfl ?_|refine zH (.there .here) rfl rfl rfl rfl ?_|refine zH (.there (.there .here)) rfl rfl rfl rfl ?_|refine zH (.there (.there (.there .here))) rfl rfl rfl rfl ?_|refine zH (.there (.there (.there (.there .here)))) rfl rfl rfl rfl ?_)
    refine ja F [blk b 56 [p, .slice none 0 0]] ?_ ?_ ?_; kernel_rfl
    · exact fun w s => s.head
    refine aT 0 rfl (ev_qe rfl) rfl rfl ?_ ?_ ?_ ?_; kernel_rfl; kernel_rfl; kernel_rfl
    refine aT 1 rfl (ev_qe rfl) rfl rfl ?_ ?_ ?_ ?_; kernel_rfl; kernel_rfl; kernel_rfl
    refine aT 2 rfl (ev_qe rfl) rfl rfl ?_ ?_ ?_ ?_; kernel_rfl; kernel_rfl; kernel_rfl
    refine aT 3 rfl (ev_load (v := .slice none 0 0) rfl rfl (Rdb.ofB (n := 0) .here rfl)) rfl rfl ?_ ?_ ?_ ?_; kernel_rfl; kernel_rfl; kernel_rfl
    refine aT 4 rfl (ev_sliceData rfl (.inl rfl)) rfl rfl ?_ ?_ ?_ ?_; kernel_rfl; kernel_rfl; kernel_rfl
    refine aT 5 rfl (ev_qe rfl) rfl rfl ?_ ?_ ?_ ?_; kernel_rfl; kernel_rfl; kernel_rfl
    refine aT 6 rfl (ev_qe rfl) rfl rfl ?_ ?_ ?_ ?_; kernel_rfl; kernel_rfl; kernel_rfl
    refine aT 7 rfl (ev_qe rfl) rfl rfl ?_ ?_ ?_ ?_; kernel_rfl; kernel_rfl; kernel_rfl
    refine aT 8 rfl (ev_load (v := .slice none 0 0) rfl rfl (Rdb.ofB (n := 0) .here rfl)) rfl rfl ?_ ?_ ?_ ?_; kernel_rfl; kernel_rfl; kernel_rfl
    refine aT 9 rfl (ev_qe rfl) rfl rfl ?_ ?_ ?_ ?_; kernel_rfl; kernel_rfl; kernel_rfl
    refine aT 10 rfl (ev_unsafeString0 rfl rfl) rfl rfl ?_ ?_ ?_ ?_; kernel_rfl; kernel_rfl; kernel_rfl
    refine aT 11 rfl (ev_qe rfl) rfl rfl ?_ ?_ ?_ ?_; kernel_rfl; kernel_rfl; kernel_rfl
    refine aD (by kernel_rfl) ?_
    repeat (first|refine zJ rfl rfl ?_|refine jr rfl ?_|refine jn ?_|refine zM rfl rfl ?_|(refine zC rfl rfl ?_ rfl ?_;omega)|(refine zD rfl rfl ?_ rfl ?_;omega)|(refine zP rfl ?_ rfl ?_;omega)|refine zG rfl rfl rfl rfl ?_|(refine jdq rfl rfl ?_ ?_ ?_;kernel_rfl;kernel_rfl)|refine zB rfl rfl rfl (by repeat constructor) rfl ?_|refine zH .here rfl rfl rfl rfl ?_|refine zH (.there .here) rfl rfl rfl rfl ?_|refine zH (.there (.there .here)) rfl rfl rfl rfl ?_|refine zH (.there (.there (.there .here))) rfl rfl rfl rfl ?_|refine zH (.there (.there (.there (.there .here)))) rfl rfl rfl rfl ?_)
    exact J_ret1 rfl rfl (bldZ b p (.slice none 0 0) []) rfl (PH.ler _) ⟨rfl, rfl⟩
  · rcases hf with ⟨rfl, e⟩ | ⟨g, rfl, hc⟩
    · exact absurd e h0
    have hl0 : bs.length ≠ 0 := by simpa using h0
    repeat (first|refine zJ rfl rfl ?_|refine jr rfl ?_|refine jn ?_|refine zM rfl rfl ?_|(refine zC rfl rfl ?_ rfl ?_;omega)|(refine zD rfl rfl ?_ rfl ?_;omega)|(refine zP rfl ?_ rfl ?_;omega)|refine zG rfl rfl rfl rfl ?_|(refine jdq rfl rfl ?_ ?_ ?_;kernel_rfl;kernel_rfl)|refine zB rfl rfl rfl (by repeat constructor) rfl ?_|refine zH .here rfl rfl rfl rfl ?_|refine zH (.there .here) rfl rfl rfl rfl ?_|refine zH (.there (.there .here)) rfl rfl rfl rfl ?_|refine zH (.there (.there (.there .here))) rfl rfl rfl rfl ?_|refine zH (.there (.there (.there (.there .here)))) rfl rfl rfl rfl ?_)
    refine ja F [blk b 56 [p, .slice (some ⟨g, 0, none⟩) bs.length c]] ?_ ?_ ?_; kernel_rfl
    · exact fun w s => s.head
    refine aT 0 rfl (ev_qe rfl) rfl rfl ?_ ?_ ?_ ?_; kernel_rfl; kernel_rfl; kernel_rfl
    refine aT 1 rfl (ev_qe rfl) rfl rfl ?_ ?_ ?_ ?_; kernel_rfl; kernel_rfl; kernel_rfl
    refine aT 2 rfl (ev_qe rfl) rfl rfl ?_ ?_ ?_ ?_; kernel_rfl; kernel_rfl; kernel_rfl
    refine aT 3 rfl (ev_load (v := .slice (some ⟨g, 0, none⟩) bs.length c) rfl rfl (Rdb.ofB (n := 0) .here rfl)) rfl rfl ?_ ?_ ?_ ?_; kernel_rfl; kernel_rfl; kernel_rfl
    refine aT 4 rfl (ev_sliceData rfl (.inr (by omega))) rfl rfl ?_ ?_ ?_ ?_; kernel_rfl; kernel_rfl; kernel_rfl
    refine aT 5 rfl (ev_qe rfl) rfl rfl ?_ ?_ ?_ ?_; kernel_rfl; kernel_rfl; kernel_rfl
    refine aT 6 rfl (ev_qe rfl) rfl rfl ?_ ?_ ?_ ?_; kernel_rfl; kernel_rfl; kernel_rfl
    refine aT 7 rfl (ev_qe rfl) rfl rfl ?_ ?_ ?_ ?_; kernel_rfl; kernel_rfl; kernel_rfl
    refine aT 8 rfl (ev_load (v := .slice (some ⟨g, 0, none⟩) bs.length c) rfl rfl (Rdb.ofB (n := 0) .here rfl)) rfl rfl ?_ ?_ ?_ ?_; kernel_rfl; kernel_rfl; kernel_rfl
    refine aT 9 rfl (ev_qe rfl) rfl rfl ?_ ?_ ?_ ?_; kernel_rfl; kernel_rfl; kernel_rfl
    refine aB (i := 10) (by kernel_rfl) (aE rfl (ev_unsafeString (E := 5) rfl rfl rfl rfl h0 (.there .here)) rfl rfl (fun _ _ _ _ hq w s => by obtain ⟨rfl, _, rfl⟩ := hq; exact s.head) ?_)
    rintro _ _ _ _ ⟨rfl, rfl, rfl⟩
    refine aT 11 rfl (ev_qe rfl) rfl rfl ?_ ?_ ?_ ?_; kernel_rfl; kernel_rfl; kernel_rfl
    refine aD (by kernel_rfl) ?_
    repeat (first|refine zJ rfl rfl ?_|refine jr rfl ?_|refine jn ?_|refine zM rfl rfl ?_|(refine zC rfl rfl ?_ rfl ?_;omega)|(refine zD rfl rfl ?_ rfl ?_;omega)|(refine zP rfl ?_ rfl ?_;omega)|refine zG rfl rfl rfl rfl ?_|(refine jdq rfl rfl ?_ ?_ ?_;kernel_rfl;kernel_rfl)|refine zB rfl rfl rfl (by repeat constructor) rfl ?_|refine zH .here rfl rfl rfl rfl ?_|refine zH (.there .here) rfl rfl rfl rfl ?_|refine zH (.there (.there .here)) rfl rfl rfl rfl ?_|refine zH (.there (.there (.there .here))) rfl rfl rfl rfl ?_|refine zH (.there (.there (.there (.there .here)))) rfl rfl rfl rfl ?_)
    exact J_ret1 rfl rfl (bldZ b p (.slice (some ⟨g, 0, none⟩) bs.length c) bs) rfl (PH.ler _) ⟨rfl, rfl⟩
end Go.Proofs.YtekdmpbkcjjllaaDoor
namespace Go.Proofs.YtekdmpbkcjjllaaDoor
open Go.RowKit
set_option maxRecDepth 100000
abbrev W8 := List UInt8
structure Co where
  client : Int
  stamp : Int
  op : Int
  letter : W8
  a : Int
  b : Int
  text : W8
structure St where
  kind : Int
  who : Int
  to : Int
  at_ : Int
  core : Co
  orgs : List Int
  blank : Int
  mk1 : Int
  mf1 : Int
  body : W8
  tags : List W8
def InI (n : Int) : Prop := -9223372036854775808 ≤ n ∧ n ≤ 9223372036854775807
def coC (c : Co) : List Value := [.int .i64 c.client, .int .i64 c.stamp, .int .i64 c.op, .string (strOf c.letter), .int .i64 c.a, .int .i64 c.b, .string (strOf c.text)]
def stC (x : St) (vo vb vt : Value) : List Value := [.int .i64 x.kind, .int .i64 x.who, .int .i64 x.to, .int .i64 x.at_, .int .i64 x.core.client, .int .i64 x.core.stamp, .int .i64 x.core.op, .string (strOf x.core.letter), .int .i64 x.core.a, .int .i64 x.core.b, .string (strOf x.core.text), vo, .int .u32 x.blank, .int .i64 x.mk1, .int .i64 x.mf1, vb, vt]
def ints (l : List Int) : List Value := l.map fun n => .int .i64 n
def NumRow (F : PH) (v : Value) (l : List Int) : Prop := SliceV F 1 v l.length (ints l) ∧ ∀ n ∈ l, InI n
theorem NumRow.mono {F G : PH} {v : Value} {l : List Int} (h : NumRow F v l) (hl : F.le G) : NumRow G v l := ⟨SliceV.mono h.1 hl, h.2⟩
theorem NumRow.nil (F : PH) : NumRow F (.slice none 0 0) [] := ⟨SliceV.nil F 1, by simp⟩
def TagRow (F : PH) (v : Value) (ts : List W8) : Prop := SliceV F 32 v ts.length (ts.map u8s).flatten ∧ ∀ t ∈ ts, t.length = 32
theorem TagRow.mono {F G : PH} {v : Value} {l : List W8} (h : TagRow F v l) (hl : F.le G) : TagRow G v l := ⟨SliceV.mono h.1 hl, h.2⟩
theorem TagRow.nil (F : PH) : TagRow F (.slice none 0 0) [] := ⟨SliceV.nil F 32, by simp⟩
structure CoIn (c : Co) : Prop where
  client : InI c.client
  stamp : InI c.stamp
  op : InI c.op
  a : InI c.a
  b : InI c.b
structure StOk (F : PH) (x : St) (vo vb vt : Value) : Prop where
  kind : InI x.kind
  who : InI x.who
  to : InI x.to
  at_ : InI x.at_
  core : CoIn x.core
  orgs : NumRow F vo x.orgs
  b0 : 0 ≤ x.blank
  b1 : x.blank ≤ 4294967295
  mk1 : InI x.mk1
  mf1 : InI x.mf1
  body : Byt F vb x.body
  tags : TagRow F vt x.tags
theorem StOk.mono {F G : PH} {x : St} {vo vb vt : Value} (h : StOk F x vo vb vt) (hl : F.le G) : StOk G x vo vb vt :=
  ⟨h.kind, h.who, h.to, h.at_, h.core, h.orgs.mono hl, h.b0, h.b1, h.mk1, h.mf1, SliceV.mono h.body hl, h.tags.mono hl⟩
def zCo : Co := ⟨0, 0, 0, [], 0, 0, []⟩
def zSt : St := ⟨0, 0, 0, 0, zCo, [], 0, 0, 0, [], []⟩
def zStC : List Value := stC zSt (.slice none 0 0) (.slice none 0 0) (.slice none 0 0)
/-! ### words -/
def spW (ws : List W8) : W8 := ws.flatMap fun w => 32 :: w
def addW (bs w : W8) : W8 := if bs = [] then w else bs ++ 32 :: w
theorem spW_app (a b : List W8) : spW (a ++ b) = spW a ++ spW b := by simp [spW]
theorem spW_one (w : W8) : spW [w] = 32 :: w := by simp [spW]
theorem spW_nil : spW [] = [] := rfl
theorem addW_ne {bs : W8} (w : W8) (h : bs ≠ []) : addW bs w = bs ++ spW [w] := by unfold addW; rw [if_neg h, spW_one]
theorem addW_nil (w : W8) : addW [] w = w := rfl
def hxT : W8 := [48, 49, 50, 51, 52, 53, 54, 55, 56, 57, 97, 98, 99, 100, 101, 102]
def hx (n : Nat) : UInt8 := hxT.getD n 0
theorem hx_get {n : Nat} (h : n < 16) : hxT[n]? = some (hx n) := by
  unfold hx
  rw [List.getD_eq_getElem?_getD, List.getElem?_eq_getElem (by simpa [hxT] using h)]
  rfl
def hexD (bs : W8) : W8 := bs.flatMap fun b => [hx (b.toNat / 16), hx (b.toNat % 16)]
def hexB (bs : W8) : W8 := if bs = [] then [45] else hexD bs
theorem hexD_len (bs : W8) : (hexD bs).length = 2 * bs.length := by
  induction bs with
  | nil => rfl
  | cons b r ih => unfold hexD at ih ⊢; rw [List.flatMap_cons, List.length_append, ih]; simp; omega
theorem hexB_len (bs : W8) : (hexB bs).length ≤ 2 * bs.length + 1 := by
  unfold hexB
  split
  · simp
  · rw [hexD_len]; omega
def nums (l : List Int) : List W8 := l.map Lib.itoa
def coW (c : Co) : List W8 := [Lib.itoa c.op, c.letter, Lib.itoa c.a, Lib.itoa c.b, hexB c.text]
theorem itoa_len {n : Int} (h : InI n) : (Lib.itoa n).length ≤ 21 := Lib.itoa_length_le n h.1 h.2
theorem spW_nums_len {l : List Int} (h : ∀ n ∈ l, InI n) : (spW (nums l)).length ≤ 22 * l.length := by
  induction l with
  | nil => simp [spW, nums]
  | cons n r ih =>
    have h1 := ih fun m hm => h m (List.mem_cons_of_mem _ hm)
    have h2 := itoa_len (h n (List.mem_cons_self))
    unfold spW nums at h1 ⊢
    rw [List.map_cons, List.flatMap_cons, List.length_append, List.length_cons, List.length_cons]
    omega
/-! ### the writer -/
set_option maxHeartbeats 2000000 in
theorem word_spec (b : Nat) (p v : Value) (bs w : W8) (F : PH) (h : BldOk b p v bs) (hl : bs.length + w.length ≤ 90000000) : Spec Tryd.prog 19 [pW b, .string (strOf w)] F (bld b p v bs) fun _ _ H' => ∃ v', H' = bld b (pW b) v' (addW bs w) ∧ BldOk b (pW b) v' (addW bs w) := by
  refine Spec.of2 Tryd.func19 rfl rfl fun X w0 => ?_
  repeat (first|refine zJ rfl rfl ?_|refine jr rfl ?_|refine jn ?_|refine zM rfl rfl ?_|(refine zC rfl rfl ?_ rfl ?_;omega)|(refine zD rfl rfl ?_ rfl ?_;omega)|(refine zP rfl ?_ rfl ?_;omega)|refine zG rfl rfl rfl rfl ?_|(refine jdq rfl rfl ?_ ?_ ?_;kernel_rfl;kernel_rfl)|refine zB rfl rfl rfl (by repeat constructor) rfl ?_|refine zH .here rfl rfl rfl rfl ?_|refine zH (.there .here) rfl rfl rfl rfl ?_|refine zH (.there (.there .here)) rfl rfl rfl rfl ?_|refine zH (.there (.there (.there .here))) rfl rfl rfl rfl ?_|refine zH (.there (.there (.there (.there .here)))) rfl rfl rfl rfl ?_)
  refine oC (Hc := bld b p v bs) (Hr := X) (bLen_spec b p v bs F) Tryd.call47 rfl rfl (fun _ s => s) ?_
  rintro _ F1 _ hF1 ⟨rfl, rfl⟩
  by_cases h0 : bs = []
  · subst h0
    repeat (first|refine zJ rfl rfl ?_|refine jr rfl ?_|refine jn ?_|refine zM rfl rfl ?_|(refine zC rfl rfl ?_ rfl ?_;omega)|(refine zD rfl rfl ?_ rfl ?_;omega)|(refine zP rfl ?_ rfl ?_;omega)|refine zG rfl rfl rfl rfl ?_|(refine jdq rfl rfl ?_ ?_ ?_;kernel_rfl;kernel_rfl)|refine zB rfl rfl rfl (by repeat constructor) rfl ?_|refine zH .here rfl rfl rfl rfl ?_|refine zH (.there .here) rfl rfl rfl rfl ?_|refine zH (.there (.there .here)) rfl rfl rfl rfl ?_|refine zH (.there (.there (.there .here))) rfl rfl rfl rfl ?_|refine zH (.there (.there (.there (.there .here)))) rfl rfl rfl rfl ?_)
    refine oC (Hc := bld b p v []) (Hr := X) (writeString_spec b p v [] w F1 h (by omega)) Tryd.call49 rfl rfl (fun _ s => s) ?_
    rintro u2 F2 _ hF2 ⟨v2, rfl, hv2⟩
    repeat (first|refine zJ rfl rfl ?_|refine jr rfl ?_|refine jn ?_|refine zM rfl rfl ?_|(refine zC rfl rfl ?_ rfl ?_;omega)|(refine zD rfl rfl ?_ rfl ?_;omega)|(refine zP rfl ?_ rfl ?_;omega)|refine zG rfl rfl rfl rfl ?_|(refine jdq rfl rfl ?_ ?_ ?_;kernel_rfl;kernel_rfl)|refine zB rfl rfl rfl (by repeat constructor) rfl ?_|refine zH .here rfl rfl rfl rfl ?_|refine zH (.there .here) rfl rfl rfl rfl ?_|refine zH (.there (.there .here)) rfl rfl rfl rfl ?_|refine zH (.there (.there (.there .here))) rfl rfl rfl rfl ?_|refine zH (.there (.there (.there (.there .here)))) rfl rfl rfl rfl ?_)
    exact J_fin rfl (bld b (pW b) v2 w) (fun w s => s) (hF1.trans hF2) ⟨v2, rfl, hv2⟩
  · have hl0 : 0 < bs.length := List.length_pos_iff.2 h0
    repeat (first|refine zJ rfl rfl ?_|refine jr rfl ?_|refine jn ?_|refine zM rfl rfl ?_|(refine zC rfl rfl ?_ rfl ?_;omega)|(refine zD rfl rfl ?_ rfl ?_;omega)|(refine zP rfl ?_ rfl ?_;omega)|refine zG rfl rfl rfl rfl ?_|(refine jdq rfl rfl ?_ ?_ ?_;kernel_rfl;kernel_rfl)|refine zB rfl rfl rfl (by repeat constructor) rfl ?_|refine zH .here rfl rfl rfl rfl ?_|refine zH (.there .here) rfl rfl rfl rfl ?_|refine zH (.there (.there .here)) rfl rfl rfl rfl ?_|refine zH (.there (.there (.there .here))) rfl rfl rfl rfl ?_|refine zH (.there (.there (.there (.there .here)))) rfl rfl rfl rfl ?_)
    refine oC (Hc := bld b p v bs) (Hr := X) (writeByte_spec b p v bs 32 F1 h (by omega)) Tryd.call48 rfl rfl (fun _ s => s) ?_
    rintro u2 F2 _ hF2 ⟨v2, rfl, hv2⟩
    repeat (first|refine zJ rfl rfl ?_|refine jr rfl ?_|refine jn ?_|refine zM rfl rfl ?_|(refine zC rfl rfl ?_ rfl ?_;omega)|(refine zD rfl rfl ?_ rfl ?_;omega)|(refine zP rfl ?_ rfl ?_;omega)|refine zG rfl rfl rfl rfl ?_|(refine jdq rfl rfl ?_ ?_ ?_;kernel_rfl;kernel_rfl)|refine zB rfl rfl rfl (by repeat constructor) rfl ?_|refine zH .here rfl rfl rfl rfl ?_|refine zH (.there .here) rfl rfl rfl rfl ?_|refine zH (.there (.there .here)) rfl rfl rfl rfl ?_|refine zH (.there (.there (.there .here))) rfl rfl rfl rfl ?_|refine zH (.there (.there (.there (.there .here)))) rfl rfl rfl rfl ?_)
    refine oC (Hc := bld b (pW b) v2 (bs ++ [32])) (Hr := X) (writeString_spec b (pW b) v2 (bs ++ [32]) w F2 hv2 (by simp; omega)) Tryd.call49 rfl rfl (fun _ s => s) ?_
    rintro u3 F3 _ hF3 ⟨v3, rfl, hv3⟩
    repeat (first|refine zJ rfl rfl ?_|refine jr rfl ?_|refine jn ?_|refine zM rfl rfl ?_|(refine zC rfl rfl ?_ rfl ?_;omega)|(refine zD rfl rfl ?_ rfl ?_;omega)|(refine zP rfl ?_ rfl ?_;omega)|refine zG rfl rfl rfl rfl ?_|(refine jdq rfl rfl ?_ ?_ ?_;kernel_rfl;kernel_rfl)|refine zB rfl rfl rfl (by repeat constructor) rfl ?_|refine zH .here rfl rfl rfl rfl ?_|refine zH (.there .here) rfl rfl rfl rfl ?_|refine zH (.there (.there .here)) rfl rfl rfl rfl ?_|refine zH (.there (.there (.there .here))) rfl rfl rfl rfl ?_|refine zH (.there (.there (.there (.there .here)))) rfl rfl rfl rfl ?_)
    have e : bs ++ [32] ++ w = addW bs w := by unfold addW; rw [if_neg h0]; simp
    rw [e] at hv3 ⊢
    exact J_fin rfl (bld b (pW b) v3 (addW bs w)) (fun w s => s) (hF1.trans (hF2.trans hF3)) ⟨v3, rfl, hv3⟩
set_option maxHeartbeats 4000000 in
theorem numbers_spec (b : Nat) (v vl : Value) (bs : W8) (l : List Int) (F : PH) (hT : TabF F) (h : BldOk b (pW b) v bs) (h0 : bs ≠ []) (hn : NumRow F vl l) (hll : l.length ≤ 1000000) (hl : bs.length + 22 * l.length ≤ 80000000) :
    Spec Tryd.prog 23 [pW b, vl] F (bld b (pW b) v bs) fun _ _ H' => ∃ v', H' = bld b (pW b) v' (bs ++ spW (nums l)) ∧ BldOk b (pW b) v' (bs ++ spW (nums l)) := by
  obtain ⟨hr, hin⟩ := hn
  obtain ⟨_, a, c, rfl, hc, hat⟩ := slice1 hr
  refine Spec.of2 Tryd.func23 rfl rfl fun X w0 => ?_
  repeat (first|refine zJ rfl rfl ?_|refine jr rfl ?_|refine jn ?_|refine zM rfl rfl ?_|(refine zC rfl rfl ?_ rfl ?_;omega)|(refine zD rfl rfl ?_ rfl ?_;omega)|(refine zP rfl ?_ rfl ?_;omega)|refine zG rfl rfl rfl rfl ?_|(refine jdq rfl rfl ?_ ?_ ?_;kernel_rfl;kernel_rfl)|refine zB rfl rfl rfl (by repeat constructor) rfl ?_|refine zH .here rfl rfl rfl rfl ?_|refine zH (.there .here) rfl rfl rfl rfl ?_|refine zH (.there (.there .here)) rfl rfl rfl rfl ?_|refine zH (.there (.there (.there .here))) rfl rfl rfl rfl ?_|refine zH (.there (.there (.there (.there .here)))) rfl rfl rfl rfl ?_)
  refine J_loop (ι := Nat × Value × PH) (fun s => s.1 ≤ l.length ∧ F.le s.2.2 ∧ BldOk b (pW b) s.2.1 (bs ++ spW (nums (l.take s.1)))) (fun s => l.length - s.1) (fun s => [(0, pW b), (6, .slice a l.length c), (7, .int .i64 l.length), (8, .int .i64 s.1)]) (fun s => s.2.2) (fun s => bld b (pW b) s.2.1 (bs ++ spW (nums (l.take s.1))) ++ X) (0, v, F) ⟨Nat.zero_le _, PH.ler _, by simpa [spW, nums] using h⟩ ⟨⟨rfl, rfl, rfl, rfl, trivial⟩, fun w s => by simpa [spW, nums] using s⟩ ?_
  rintro ⟨i, v1, G⟩ ⟨hi, hG, hv1⟩
  dsimp only at *
  by_cases hlt : i < l.length
  · have hg : l[i]? = some l[i] := List.getElem?_eq_getElem hlt
    have hx := hin l[i] (List.getElem_mem hlt)
    have hle := spW_nums_len (l := l.take i) fun n hn => hin n (List.mem_of_mem_take hn)
    rw [List.length_take, Nat.min_eq_left hi] at hle
    obtain ⟨b1, o1, rfl, hcc⟩ := hat i l[i] hg
    have hsn : bs ++ spW (nums (l.take (i + 1))) = addW (bs ++ spW (nums (l.take i))) (Lib.itoa l[i]) := by
      rw [addW_ne _ (by simp [h0]), List.take_add_one, hg, Option.toList_some]
      unfold nums
      rw [List.map_append, spW_app, List.append_assoc]
      rfl
    have hil := itoa_len hx
    generalize l[i] = n at *
    generalize hbs : bs ++ spW (nums (l.take i)) = bs1 at *
    have hbl : bs1.length ≤ bs.length + 22 * i := by rw [← hbs, List.length_append]; omega
    repeat (first|refine zJ rfl rfl ?_|refine jr rfl ?_|refine jn ?_|refine zM rfl rfl ?_|(refine zC rfl rfl ?_ rfl ?_;omega)|(refine zD rfl rfl ?_ rfl ?_;omega)|(refine zP rfl ?_ rfl ?_;omega)|refine zG rfl rfl rfl rfl ?_|(refine jdq rfl rfl ?_ ?_ ?_;kernel_rfl;kernel_rfl)|refine zB rfl rfl rfl (by repeat constructor) rfl ?_|refine zH .here rfl rfl rfl rfl ?_|refine zH (.there .here) rfl rfl rfl rfl ?_|refine zH (.there (.there .here)) rfl rfl rfl rfl ?_|refine zH (.there (.there (.there .here))) rfl rfl rfl rfl ?_|refine zH (.there (.there (.there (.there .here)))) rfl rfl rfl rfl ?_)
    refine oS (ev_indexAddr rfl rfl rfl hlt) rfl ?_
    refine oS (ev_load rfl rfl (Rdb.ofF (hcc.mono hG))) rfl ?_
    repeat (first|refine zJ rfl rfl ?_|refine jr rfl ?_|refine jn ?_|refine zM rfl rfl ?_|(refine zC rfl rfl ?_ rfl ?_;omega)|(refine zD rfl rfl ?_ rfl ?_;omega)|(refine zP rfl ?_ rfl ?_;omega)|refine zG rfl rfl rfl rfl ?_|(refine jdq rfl rfl ?_ ?_ ?_;kernel_rfl;kernel_rfl)|refine zB rfl rfl rfl (by repeat constructor) rfl ?_|refine zH .here rfl rfl rfl rfl ?_|refine zH (.there .here) rfl rfl rfl rfl ?_|refine zH (.there (.there .here)) rfl rfl rfl rfl ?_|refine zH (.there (.there (.there .here))) rfl rfl rfl rfl ?_|refine zH (.there (.there (.there (.there .here)))) rfl rfl rfl rfl ?_)
    refine oP (fmt_spec n hx.1 hx.2 G (hT.mono hG)) Tryd.call50 rfl rfl ?_
    refine oC (Hc := bld b (pW b) v1 bs1) (Hr := X) (word_spec b (pW b) v1 bs1 (Lib.itoa n) G hv1 (by omega)) Tryd.call19 rfl rfl (fun _ s => s) ?_
    rintro u2 F2 _ hF2 ⟨v2, rfl, hv2⟩
    repeat (first|refine zJ rfl rfl ?_|refine jr rfl ?_|refine jn ?_|refine zM rfl rfl ?_|(refine zC rfl rfl ?_ rfl ?_;omega)|(refine zD rfl rfl ?_ rfl ?_;omega)|(refine zP rfl ?_ rfl ?_;omega)|refine zG rfl rfl rfl rfl ?_|(refine jdq rfl rfl ?_ ?_ ?_;kernel_rfl;kernel_rfl)|refine zB rfl rfl rfl (by repeat constructor) rfl ?_|refine zH .here rfl rfl rfl rfl ?_|refine zH (.there .here) rfl rfl rfl rfl ?_|refine zH (.there (.there .here)) rfl rfl rfl rfl ?_|refine zH (.there (.there (.there .here))) rfl rfl rfl rfl ?_|refine zH (.there (.there (.there (.there .here)))) rfl rfl rfl rfl ?_)
    refine J_again (ι := Nat × Value × PH) (i + 1, v2, F2) ⟨hlt, hG.trans hF2, by dsimp only; rw [hsn]; exact hv2⟩ (by dsimp only; omega) ⟨⟨rfl, rfl, rfl, rfl, trivial⟩, fun w s => by dsimp only; rw [hsn]; exact s⟩
  · obtain rfl : i = l.length := by omega
    rw [List.take_length] at hv1 ⊢
    repeat (first|refine zJ rfl rfl ?_|refine jr rfl ?_|refine jn ?_|refine zM rfl rfl ?_|(refine zC rfl rfl ?_ rfl ?_;omega)|(refine zD rfl rfl ?_ rfl ?_;omega)|(refine zP rfl ?_ rfl ?_;omega)|refine zG rfl rfl rfl rfl ?_|(refine jdq rfl rfl ?_ ?_ ?_;kernel_rfl;kernel_rfl)|refine zB rfl rfl rfl (by repeat constructor) rfl ?_|refine zH .here rfl rfl rfl rfl ?_|refine zH (.there .here) rfl rfl rfl rfl ?_|refine zH (.there (.there .here)) rfl rfl rfl rfl ?_|refine zH (.there (.there (.there .here))) rfl rfl rfl rfl ?_|refine zH (.there (.there (.there (.there .here)))) rfl rfl rfl rfl ?_)
    refine zE rfl ?_
    exact J_fin rfl (bld b (pW b) v1 (bs ++ spW (nums l))) (fun w s => s) hG ⟨v1, rfl, hv1⟩
end Go.Proofs.YtekdmpbkcjjllaaDoor
namespace Go.Proofs.YtekdmpbkcjjllaaDoor
open Go.RowKit
set_option maxRecDepth 100000
theorem elI : Elem Tryd.prog 24 3 1 8 (.int .i64 0) := ⟨rfl, ⟨_, rfl, rfl, rfl, rfl, rfl, by decide⟩, rfl, rfl⟩
theorem elI64 : Elem Tryd.prog 97 2 1 8 (.int .i64 0) := ⟨rfl, ⟨_, rfl, rfl, rfl, rfl, rfl, by decide⟩, rfl, rfl⟩
theorem NumRow.of_blk {F h : PH} {b E : Nat} {l : List Int} (hA : blk b E (ints l) h) (hd : F.dj h) (hi : ∀ n ∈ l, InI n) : NumRow (F.un h) (.slice (some ⟨b, 0, none⟩) l.length l.length) l :=
  ⟨⟨by simp [ints], _, _, rfl, Nat.le_refl _, fun _ => ⟨b, 0, rfl, blk_cells hA hd⟩⟩, hi⟩
theorem ev_ix {P : Program} {l : Env} {F : PH} {H : List Asrt} {d : Option Nat} {T U : TypeId} {pos : String} {af : Array Edge} {g : Option (Nat × Bool)} {x y : Operand} {bs : List UInt8} {i : Nat} {k : IntKind} {c : UInt8} (hx : opv l x = some (.string (strOf bs))) (hy : opv l y = some (.int k (i : Int))) (ht : P.underlying T = some .string) (hi : bs[i]? = some c) :
    Ev P ⟨d, .index T x y, U, pos, af, g⟩ l F H (.int .u8 c.toNat) :=
  ev_index_str hx hy ht (by unfold strOf; simpa using hi) rfl
set_option maxHeartbeats 4000000 in
theorem wints_spec (b : Nat) (v vl : Value) (bs : W8) (l : List Int) (F : PH) (hT : TabF F) (h : BldOk b (pW b) v bs) (h0 : bs ≠ []) (hn : NumRow F vl l) (hll : l.length ≤ 1000000) (hl : bs.length + 22 * l.length ≤ 70000000) :
    Spec Tryd.prog 21 [pW b, vl] F (bld b (pW b) v bs) fun _ _ H' => ∃ v', H' = bld b (pW b) v' (bs ++ spW (nums l)) ∧ BldOk b (pW b) v' (bs ++ spW (nums l)) := by
  obtain ⟨hr, hin⟩ := hn
  obtain ⟨_, a, c, rfl, hc, hat⟩ := slice1 hr
  refine Spec.of2 Tryd.func21 rfl rfl fun X w0 => ?_
  repeat (first|refine zJ rfl rfl ?_|refine jr rfl ?_|refine jn ?_|refine zM rfl rfl ?_|(refine zC rfl rfl ?_ rfl ?_;omega)|(refine zD rfl rfl ?_ rfl ?_;omega)|(refine zP rfl ?_ rfl ?_;omega)|refine zG rfl rfl rfl rfl ?_|(refine jdq rfl rfl ?_ ?_ ?_;kernel_rfl;kernel_rfl)|refine zB rfl rfl rfl (by repeat constructor) rfl ?_|refine zH .here rfl rfl rfl rfl ?_|refine zH (.there .here) rfl rfl rfl rfl ?_|refine zH (.there (.there .here)) rfl rfl rfl rfl ?_|refine zH (.there (.there (.there .here))) rfl rfl rfl rfl ?_|refine zH (.there (.there (.there (.there .here)))) rfl rfl rfl rfl ?_)
  refine J_loop (ι := Nat × Value × PH) (fun s => s.1 ≤ l.length ∧ F.le s.2.2 ∧ BldOk b (pW b) s.2.1 (bs ++ spW (nums (l.take s.1)))) (fun s => l.length - s.1) (fun s => [(0, pW b), (6, .slice a l.length c), (7, .int .i64 l.length), (8, .int .i64 s.1)]) (fun s => s.2.2) (fun s => bld b (pW b) s.2.1 (bs ++ spW (nums (l.take s.1))) ++ X) (0, v, F) ⟨Nat.zero_le _, PH.ler _, by simpa [spW, nums] using h⟩ ⟨⟨rfl, rfl, rfl, rfl, trivial⟩, fun w s => by simpa [spW, nums] using s⟩ ?_
  rintro ⟨i, v1, G⟩ ⟨hi, hG, hv1⟩
  dsimp only at *
  by_cases hlt : i < l.length
  · have hg : l[i]? = some l[i] := List.getElem?_eq_getElem hlt
    have hx := hin l[i] (List.getElem_mem hlt)
    have hle := spW_nums_len (l := l.take i) fun n hn => hin n (List.mem_of_mem_take hn)
    rw [List.length_take, Nat.min_eq_left hi] at hle
    obtain ⟨b1, o1, rfl, hcc⟩ := hat i l[i] hg
    have hsn : bs ++ spW (nums (l.take (i + 1))) = (bs ++ spW (nums (l.take i))) ++ spW (nums [l[i]]) := by
      rw [List.take_add_one, hg, Option.toList_some]
      unfold nums
      rw [List.map_append, spW_app, List.append_assoc]
    have hne : bs ++ spW (nums (l.take i)) ≠ [] := by simp [h0]
    generalize l[i] = n at *
    generalize hbs : bs ++ spW (nums (l.take i)) = bs1 at *
    have hbl : bs1.length ≤ bs.length + 22 * i := by rw [← hbs, List.length_append]; omega
    repeat (first|refine zJ rfl rfl ?_|refine jr rfl ?_|refine jn ?_|refine zM rfl rfl ?_|(refine zC rfl rfl ?_ rfl ?_;omega)|(refine zD rfl rfl ?_ rfl ?_;omega)|(refine zP rfl ?_ rfl ?_;omega)|refine zG rfl rfl rfl rfl ?_|(refine jdq rfl rfl ?_ ?_ ?_;kernel_rfl;kernel_rfl)|refine zB rfl rfl rfl (by repeat constructor) rfl ?_|refine zH .here rfl rfl rfl rfl ?_|refine zH (.there .here) rfl rfl rfl rfl ?_|refine zH (.there (.there .here)) rfl rfl rfl rfl ?_|refine zH (.there (.there (.there .here))) rfl rfl rfl rfl ?_|refine zH (.there (.there (.there (.there .here)))) rfl rfl rfl rfl ?_)
    refine oS (ev_indexAddr rfl rfl rfl hlt) rfl ?_
    refine oS (ev_load rfl rfl (Rdb.ofF (hcc.mono hG))) rfl ?_
    repeat (first|refine zJ rfl rfl ?_|refine jr rfl ?_|refine jn ?_|refine zM rfl rfl ?_|(refine zC rfl rfl ?_ rfl ?_;omega)|(refine zD rfl rfl ?_ rfl ?_;omega)|(refine zP rfl ?_ rfl ?_;omega)|refine zG rfl rfl rfl rfl ?_|(refine jdq rfl rfl ?_ ?_ ?_;kernel_rfl;kernel_rfl)|refine zB rfl rfl rfl (by repeat constructor) rfl ?_|refine zH .here rfl rfl rfl rfl ?_|refine zH (.there .here) rfl rfl rfl rfl ?_|refine zH (.there (.there .here)) rfl rfl rfl rfl ?_|refine zH (.there (.there (.there .here))) rfl rfl rfl rfl ?_|refine zH (.there (.there (.there (.there .here)))) rfl rfl rfl rfl ?_)
    refine oE (ev_one rfl .int rfl elI64) rfl ?_
    rintro _ _ _ _ ⟨rfl, bt, rfl, rfl⟩
    refine oPersist fun hh hA hd => ?_
    have hrow : NumRow (G.un hh) (.slice (some ⟨bt, 0, none⟩) 1 1) [n] := NumRow.of_blk hA hd (by simpa using hx)
    have hG2 := hG.trans (PH.le_l G hh)
    generalize G.un hh = G2 at *
    refine oC (Hc := bld b (pW b) v1 bs1) (Hr := X) (numbers_spec b v1 _ bs1 [n] G2 (hT.mono hG2) hv1 hne hrow (by simp) (by simp; omega)) Tryd.call23 rfl rfl (fun _ s => s) ?_
    rintro u2 F2 _ hF2 ⟨v2, rfl, hv2⟩
    repeat (first|refine zJ rfl rfl ?_|refine jr rfl ?_|refine jn ?_|refine zM rfl rfl ?_|(refine zC rfl rfl ?_ rfl ?_;omega)|(refine zD rfl rfl ?_ rfl ?_;omega)|(refine zP rfl ?_ rfl ?_;omega)|refine zG rfl rfl rfl rfl ?_|(refine jdq rfl rfl ?_ ?_ ?_;kernel_rfl;kernel_rfl)|refine zB rfl rfl rfl (by repeat constructor) rfl ?_|refine zH .here rfl rfl rfl rfl ?_|refine zH (.there .here) rfl rfl rfl rfl ?_|refine zH (.there (.there .here)) rfl rfl rfl rfl ?_|refine zH (.there (.there (.there .here))) rfl rfl rfl rfl ?_|refine zH (.there (.there (.there (.there .here)))) rfl rfl rfl rfl ?_)
    refine J_again (ι := Nat × Value × PH) (i + 1, v2, F2) ⟨hlt, hG2.trans hF2, by dsimp only; rw [hsn]; exact hv2⟩ (by dsimp only; omega) ⟨⟨rfl, rfl, rfl, rfl, trivial⟩, fun w s => by dsimp only; rw [hsn]; exact s⟩
  · obtain rfl : i = l.length := by omega
    rw [List.take_length] at hv1 ⊢
    repeat (first|refine zJ rfl rfl ?_|refine jr rfl ?_|refine jn ?_|refine zM rfl rfl ?_|(refine zC rfl rfl ?_ rfl ?_;omega)|(refine zD rfl rfl ?_ rfl ?_;omega)|(refine zP rfl ?_ rfl ?_;omega)|refine zG rfl rfl rfl rfl ?_|(refine jdq rfl rfl ?_ ?_ ?_;kernel_rfl;kernel_rfl)|refine zB rfl rfl rfl (by repeat constructor) rfl ?_|refine zH .here rfl rfl rfl rfl ?_|refine zH (.there .here) rfl rfl rfl rfl ?_|refine zH (.there (.there .here)) rfl rfl rfl rfl ?_|refine zH (.there (.there (.there .here))) rfl rfl rfl rfl ?_|refine zH (.there (.there (.there (.there .here)))) rfl rfl rfl rfl ?_)
    refine zE rfl ?_
    exact J_fin rfl (bld b (pW b) v1 (bs ++ spW (nums l))) (fun w s => s) hG ⟨v1, rfl, hv1⟩
theorem hexD_snoc {l : W8} {i : Nat} {c : UInt8} (h : l[i]? = some c) : hexD (l.take (i + 1)) = hexD (l.take i) ++ [hx (c.toNat / 16), hx (c.toNat % 16)] := by
  rw [List.take_add_one, h, Option.toList_some]
  unfold hexD
  rw [List.flatMap_append]
  simp
set_option maxHeartbeats 8000000 in
theorem wbytes_spec (b : Nat) (v vd : Value) (bs ds : W8) (F : PH) (h : BldOk b (pW b) v bs) (h0 : bs ≠ []) (hn : Byt F vd ds) (hdl : ds.length ≤ 1000000) (hl : bs.length + 2 * ds.length ≤ 70000000) :
    Spec Tryd.prog 24 [pW b, vd] F (bld b (pW b) v bs) fun _ _ H' => ∃ v', H' = bld b (pW b) v' (bs ++ spW [hexB ds]) ∧ BldOk b (pW b) v' (bs ++ spW [hexB ds]) := by
  obtain ⟨_, a, c, rfl, hc, hat⟩ := slice1 hn
  refine Spec.of2 Tryd.func24 rfl rfl fun X w0 => ?_
  rw [← addW_ne (hexB ds) h0]
  by_cases hd0 : ds = []
  · subst hd0
    repeat (first|refine zJ rfl rfl ?_|refine jr rfl ?_|refine jn ?_|refine zM rfl rfl ?_|(refine zC rfl rfl ?_ rfl ?_;omega)|(refine zD rfl rfl ?_ rfl ?_;omega)|(refine zP rfl ?_ rfl ?_;omega)|refine zG rfl rfl rfl rfl ?_|(refine jdq rfl rfl ?_ ?_ ?_;kernel_rfl;kernel_rfl)|refine zB rfl rfl rfl (by repeat constructor) rfl ?_|refine zH .here rfl rfl rfl rfl ?_|refine zH (.there .here) rfl rfl rfl rfl ?_|refine zH (.there (.there .here)) rfl rfl rfl rfl ?_|refine zH (.there (.there (.there .here))) rfl rfl rfl rfl ?_|refine zH (.there (.there (.there (.there .here)))) rfl rfl rfl rfl ?_)
    refine oC (Hc := bld b (pW b) v bs) (Hr := X) (word_spec b (pW b) v bs [45] F h (by simp; omega)) Tryd.call19 rfl rfl (fun _ s => s) ?_
    rintro u2 F2 _ hF2 ⟨v2, rfl, hv2⟩
    repeat (first|refine zJ rfl rfl ?_|refine jr rfl ?_|refine jn ?_|refine zM rfl rfl ?_|(refine zC rfl rfl ?_ rfl ?_;omega)|(refine zD rfl rfl ?_ rfl ?_;omega)|(refine zP rfl ?_ rfl ?_;omega)|refine zG rfl rfl rfl rfl ?_|(refine jdq rfl rfl ?_ ?_ ?_;kernel_rfl;kernel_rfl)|refine zB rfl rfl rfl (by repeat constructor) rfl ?_|refine zH .here rfl rfl rfl rfl ?_|refine zH (.there .here) rfl rfl rfl rfl ?_|refine zH (.there (.there .here)) rfl rfl rfl rfl ?_|refine zH (.there (.there (.there .here))) rfl rfl rfl rfl ?_|refine zH (.there (.there (.there (.there .here)))) rfl rfl rfl rfl ?_)
    exact J_retv (vs := []) rfl .nil (bld b (pW b) v2 (addW bs (hexB []))) (fun w s => s) hF2 ⟨v2, rfl, hv2⟩
  have hpos : 0 < ds.length := List.length_pos_iff.2 hd0
  repeat (first|refine zJ rfl rfl ?_|refine jr rfl ?_|refine jn ?_|refine zM rfl rfl ?_|(refine zC rfl rfl ?_ rfl ?_;omega)|(refine zD rfl rfl ?_ rfl ?_;omega)|(refine zP rfl ?_ rfl ?_;omega)|refine zG rfl rfl rfl rfl ?_|(refine jdq rfl rfl ?_ ?_ ?_;kernel_rfl;kernel_rfl)|refine zB rfl rfl rfl (by repeat constructor) rfl ?_|refine zH .here rfl rfl rfl rfl ?_|refine zH (.there .here) rfl rfl rfl rfl ?_|refine zH (.there (.there .here)) rfl rfl rfl rfl ?_|refine zH (.there (.there (.there .here))) rfl rfl rfl rfl ?_|refine zH (.there (.there (.there (.there .here)))) rfl rfl rfl rfl ?_)
  refine oE (ev_make (c := 2 * ds.length) rfl (show opv _ _ = _ from congrArg (fun z : Int => some (Value.int .i64 z)) (by omega)) elB (by omega)) rfl ?_
  rintro _ _ _ _ ⟨rfl, ⟨bt, rfl⟩, rfl⟩
  repeat (first|refine zJ rfl rfl ?_|refine jr rfl ?_|refine jn ?_|refine zM rfl rfl ?_|(refine zC rfl rfl ?_ rfl ?_;omega)|(refine zD rfl rfl ?_ rfl ?_;omega)|(refine zP rfl ?_ rfl ?_;omega)|refine zG rfl rfl rfl rfl ?_|(refine jdq rfl rfl ?_ ?_ ?_;kernel_rfl;kernel_rfl)|refine zB rfl rfl rfl (by repeat constructor) rfl ?_|refine zH .here rfl rfl rfl rfl ?_|refine zH (.there .here) rfl rfl rfl rfl ?_|refine zH (.there (.there .here)) rfl rfl rfl rfl ?_|refine zH (.there (.there (.there .here))) rfl rfl rfl rfl ?_|refine zH (.there (.there (.there (.there .here)))) rfl rfl rfl rfl ?_)
  refine J_loop2 (fun (i : Nat) (u : Value) => i ≤ ds.length) (fun i _ => ds.length - i) (fun i u => [(0, pW b), (1, .slice a ds.length c), (4, u), (16, .slice a ds.length c), (17, .int .i64 ds.length), (18, .int .i64 i)]) (fun _ _ => F) (fun i u => bytes u (hexD (ds.take i)) :: (bld b (pW b) v bs ++ X)) 0 (.slice (some ⟨bt, 0, none⟩) 0 (2 * ds.length)) (Nat.zero_le _) ⟨⟨rfl, rfl, rfl, rfl, rfl, rfl, trivial⟩, fun w s => s⟩ ?_
  intro i u hi
  by_cases hlt : i < ds.length
  · have hg : ds[i]? = some ds[i] := List.getElem?_eq_getElem hlt
    obtain ⟨b1, o1, rfl, hcc⟩ := hat i ds[i] hg
    have hsn := hexD_snoc hg
    have hlen := hexD_len (ds.take i)
    rw [List.length_take, Nat.min_eq_left hi] at hlen
    have hc256 := (ds[i]).toNat_lt
    generalize ds[i] = x at *
    repeat (first|refine zJ rfl rfl ?_|refine jr rfl ?_|refine jn ?_|refine zM rfl rfl ?_|(refine zC rfl rfl ?_ rfl ?_;omega)|(refine zD rfl rfl ?_ rfl ?_;omega)|(refine zP rfl ?_ rfl ?_;omega)|refine zG rfl rfl rfl rfl ?_|(refine jdq rfl rfl ?_ ?_ ?_;kernel_rfl;kernel_rfl)|refine zB rfl rfl rfl (by repeat constructor) rfl ?_|refine zH .here rfl rfl rfl rfl ?_|refine zH (.there .here) rfl rfl rfl rfl ?_|refine zH (.there (.there .here)) rfl rfl rfl rfl ?_|refine zH (.there (.there (.there .here))) rfl rfl rfl rfl ?_|refine zH (.there (.there (.there (.there .here)))) rfl rfl rfl rfl ?_)
    refine oS (ev_indexAddr rfl rfl rfl hlt) rfl ?_
    refine oS (ev_load rfl rfl (Rdb.ofF hcc)) rfl ?_
    repeat (first|refine zJ rfl rfl ?_|refine jr rfl ?_|refine jn ?_|refine zM rfl rfl ?_|(refine zC rfl rfl ?_ rfl ?_;omega)|(refine zD rfl rfl ?_ rfl ?_;omega)|(refine zP rfl ?_ rfl ?_;omega)|refine zG rfl rfl rfl rfl ?_|(refine jdq rfl rfl ?_ ?_ ?_;kernel_rfl;kernel_rfl)|refine zB rfl rfl rfl (by repeat constructor) rfl ?_|refine zH .here rfl rfl rfl rfl ?_|refine zH (.there .here) rfl rfl rfl rfl ?_|refine zH (.there (.there .here)) rfl rfl rfl rfl ?_|refine zH (.there (.there (.there .here))) rfl rfl rfl rfl ?_|refine zH (.there (.there (.there (.there .here)))) rfl rfl rfl rfl ?_)
    refine ja PH.emp [] ?_ (fun w s => s.any) ?_; kernel_rfl
    refine aT 0 rfl (ev_qe rfl) rfl rfl ?_ ?_ ?_ ?_; kernel_rfl; kernel_rfl; kernel_rfl
    refine aT 1 rfl (ev_qe rfl) rfl rfl ?_ ?_ ?_ ?_; kernel_rfl; kernel_rfl; kernel_rfl
    refine aT 2 rfl (ev_shr (m := x.toNat) (n := 4) rfl rfl (by exact hc256)) rfl rfl ?_ ?_ ?_ ?_; kernel_rfl; kernel_rfl; kernel_rfl
    refine aT 3 rfl (ev_ix (bs := hxT) (c := hx (x.toNat / 16)) rfl rfl rfl (by rw [Nat.shiftRight_eq_div_pow]; exact hx_get (by omega))) rfl rfl ?_ ?_ ?_ ?_; kernel_rfl; kernel_rfl; kernel_rfl
    refine aT 4 rfl (ev_qe rfl) rfl rfl ?_ ?_ ?_ ?_; kernel_rfl; kernel_rfl; kernel_rfl
    refine aT 5 rfl (ev_and_bits (m := x.toNat) (n := 15) rfl rfl rfl (by exact hc256) (by decide)) rfl rfl ?_ ?_ ?_ ?_; kernel_rfl; kernel_rfl; kernel_rfl
    refine aT 6 rfl (ev_ix (bs := hxT) (c := hx (x.toNat % 16)) rfl rfl rfl (by rw [show (15 : Nat) = 2 ^ 4 - 1 from rfl, Nat.and_two_pow_sub_one_eq_mod]; exact hx_get (by omega))) rfl rfl ?_ ?_ ?_ ?_; kernel_rfl; kernel_rfl; kernel_rfl
    refine aB (i := 7) (by kernel_rfl) (aE rfl (ev_buildSlice (E := 5) (zs := [.int .u8 0]) (r := [.int .u8 0, .int .u8 0]) (t := [.int .u8 (hx (x.toNat / 16)).toNat, .int .u8 (hx (x.toNat % 16)).toNat]) rfl rfl rfl rfl rfl rfl (.cons .int rfl (by repeat constructor) (.cons .int rfl (by repeat constructor) .nil))) rfl rfl (fun _ _ _ _ _ w s => s.any) ?_)
    rintro _ _ _ _ ⟨rfl, b2, rfl, rfl⟩
    refine aB (i := 8) (by kernel_rfl) (aE rfl (ev_append (m := 2) (c := 2) (b := b2) (off := 0) (n := (hexD (ds.take i)).length) (xs := u8s (hexD (ds.take i))) (news := [.int .u8 (hx (x.toNat / 16)).toNat, .int .u8 (hx (x.toNat % 16)).toNat]) (K := fun v' => blk b2 5 [.int .u8 (hx (x.toNat / 16)).toNat, .int .u8 (hx (x.toNat % 16)).toNat] :: own v' 5 1 ((hexD (ds.take i)).length + 2) (u8s (hexD (ds.take i)) ++ [.int .u8 (hx (x.toNat / 16)).toNat, .int .u8 (hx (x.toNat % 16)).toNat]) :: (bld b (pW b) v bs ++ X)) rfl rfl elB (Rdb.ofB (n := 0) .here rfl) rfl (ones_cons rfl (ones_cons rfl ones_nil)) (by omega) (by unfold maxLen; omega) (fun v' => .there .here)) rfl rfl (fun _ _ _ _ _ w s => s.any) ?_)
    rintro u' _ _ _ ⟨rfl, _, rfl⟩
    refine aT 9 rfl (ev_qe rfl) rfl rfl ?_ ?_ ?_ ?_; kernel_rfl; kernel_rfl; kernel_rfl
    refine aD (by kernel_rfl) ?_
    repeat (first|refine zJ rfl rfl ?_|refine jr rfl ?_|refine jn ?_|refine zM rfl rfl ?_|(refine zC rfl rfl ?_ rfl ?_;omega)|(refine zD rfl rfl ?_ rfl ?_;omega)|(refine zP rfl ?_ rfl ?_;omega)|refine zG rfl rfl rfl rfl ?_|(refine jdq rfl rfl ?_ ?_ ?_;kernel_rfl;kernel_rfl)|refine zB rfl rfl rfl (by repeat constructor) rfl ?_|refine zH .here rfl rfl rfl rfl ?_|refine zH (.there .here) rfl rfl rfl rfl ?_|refine zH (.there (.there .here)) rfl rfl rfl rfl ?_|refine zH (.there (.there (.there .here))) rfl rfl rfl rfl ?_|refine zH (.there (.there (.there (.there .here)))) rfl rfl rfl rfl ?_)
    have e : own u' 5 1 ((hexD (ds.take i)).length + 2) (u8s (hexD (ds.take i)) ++ [.int .u8 (hx (x.toNat / 16)).toNat, .int .u8 (hx (x.toNat % 16)).toNat]) = bytes u' (hexD (ds.take (i + 1))) := by
      unfold bytes
      rw [hsn, u8s_append, List.length_append]
      rfl
    refine J_again2 (i + 1) u' hlt (by omega) ⟨⟨rfl, rfl, rfl, rfl, rfl, rfl, trivial⟩, fun w s => ?_⟩
    rw [← e]
    exact s.drop
  · obtain rfl : i = ds.length := by omega
    rw [List.take_length]
    have he : hexB ds = hexD ds := by unfold hexB; rw [if_neg hd0]
    have hlen := hexD_len ds
    rw [he]
    refine jOwn .here fun a3 c3 hu _ _ _ => ?_
    subst hu
    repeat (first|refine zJ rfl rfl ?_|refine jr rfl ?_|refine jn ?_|refine zM rfl rfl ?_|(refine zC rfl rfl ?_ rfl ?_;omega)|(refine zD rfl rfl ?_ rfl ?_;omega)|(refine zP rfl ?_ rfl ?_;omega)|refine zG rfl rfl rfl rfl ?_|(refine jdq rfl rfl ?_ ?_ ?_;kernel_rfl;kernel_rfl)|refine zB rfl rfl rfl (by repeat constructor) rfl ?_|refine zH .here rfl rfl rfl rfl ?_|refine zH (.there .here) rfl rfl rfl rfl ?_|refine zH (.there (.there .here)) rfl rfl rfl rfl ?_|refine zH (.there (.there (.there .here))) rfl rfl rfl rfl ?_|refine zH (.there (.there (.there (.there .here)))) rfl rfl rfl rfl ?_)
    refine oPersist fun hh hA hd => ?_
    have hb9 := own_slice hA hd
    have hF1 := PH.le_l F hh
    generalize F.un hh = F1 at *
    refine oS (eb_string rfl hb9.rds) rfl ?_
    refine oC (Hc := bld b (pW b) v bs) (Hr := X) (word_spec b (pW b) v bs (hexD ds) F1 h (by omega)) Tryd.call19 rfl rfl (fun _ s => s) ?_
    rintro u2 F2 _ hF2 ⟨v2, rfl, hv2⟩
    repeat (first|refine zJ rfl rfl ?_|refine jr rfl ?_|refine jn ?_|refine zM rfl rfl ?_|(refine zC rfl rfl ?_ rfl ?_;omega)|(refine zD rfl rfl ?_ rfl ?_;omega)|(refine zP rfl ?_ rfl ?_;omega)|refine zG rfl rfl rfl rfl ?_|(refine jdq rfl rfl ?_ ?_ ?_;kernel_rfl;kernel_rfl)|refine zB rfl rfl rfl (by repeat constructor) rfl ?_|refine zH .here rfl rfl rfl rfl ?_|refine zH (.there .here) rfl rfl rfl rfl ?_|refine zH (.there (.there .here)) rfl rfl rfl rfl ?_|refine zH (.there (.there (.there .here))) rfl rfl rfl rfl ?_|refine zH (.there (.there (.there (.there .here)))) rfl rfl rfl rfl ?_)
    refine zE rfl ?_
    exact J_fin rfl (bld b (pW b) v2 (addW bs (hexD ds))) (fun w s => s) (hF1.trans hF2) ⟨v2, rfl, hv2⟩
set_option maxHeartbeats 8000000 in
theorem wcore_spec (b : Nat) (v : Value) (bs : W8) (x : Co) (F : PH) (hT : TabF F) (hx : CoIn x) (h : BldOk b (pW b) v bs) (h0 : bs ≠ []) (hll : x.letter.length ≤ 1000000) (htl : x.text.length ≤ 1000000) (hl : bs.length ≤ 50000000) :
    Spec Tryd.prog 22 [pW b, .agg (coC x).toArray] F (bld b (pW b) v bs) fun _ _ H' => ∃ v', H' = bld b (pW b) v' (bs ++ spW (coW x)) ∧ BldOk b (pW b) v' (bs ++ spW (coW x)) := by
  refine Spec.of2 Tryd.func22 rfl rfl fun X w0 => ?_
  have i1 := itoa_len hx.op
  have i2 := itoa_len hx.a
  have i3 := itoa_len hx.b
  have i4 := hexB_len x.text
  have e1 : bs ++ spW (nums [x.op]) ++ spW [x.letter] ++ spW (nums [x.a, x.b]) ++ spW [hexB x.text] = bs ++ spW (coW x) := by
    simp [spW, nums, coW]
  rw [← e1]
  unfold coC
  repeat (first|refine zJ rfl rfl ?_|refine jr rfl ?_|refine jn ?_|refine zM rfl rfl ?_|(refine zC rfl rfl ?_ rfl ?_;omega)|(refine zD rfl rfl ?_ rfl ?_;omega)|(refine zP rfl ?_ rfl ?_;omega)|refine zG rfl rfl rfl rfl ?_|(refine jdq rfl rfl ?_ ?_ ?_;kernel_rfl;kernel_rfl)|refine zB rfl rfl rfl (by repeat constructor) rfl ?_|refine zH .here rfl rfl rfl rfl ?_|refine zH (.there .here) rfl rfl rfl rfl ?_|refine zH (.there (.there .here)) rfl rfl rfl rfl ?_|refine zH (.there (.there (.there .here))) rfl rfl rfl rfl ?_|refine zH (.there (.there (.there (.there .here)))) rfl rfl rfl rfl ?_)
  refine oE (ev_box rfl .agg) rfl ?_; rintro _ _ _ _ ⟨rfl, b3, rfl, rfl⟩
  repeat (first|refine zJ rfl rfl ?_|refine jr rfl ?_|refine jn ?_|refine zM rfl rfl ?_|(refine zC rfl rfl ?_ rfl ?_;omega)|(refine zD rfl rfl ?_ rfl ?_;omega)|(refine zP rfl ?_ rfl ?_;omega)|refine zG rfl rfl rfl rfl ?_|(refine jdq rfl rfl ?_ ?_ ?_;kernel_rfl;kernel_rfl)|refine zB rfl rfl rfl (by repeat constructor) rfl ?_|refine zH .here rfl rfl rfl rfl ?_|refine zH (.there .here) rfl rfl rfl rfl ?_|refine zH (.there (.there .here)) rfl rfl rfl rfl ?_|refine zH (.there (.there (.there .here))) rfl rfl rfl rfl ?_|refine zH (.there (.there (.there (.there .here)))) rfl rfl rfl rfl ?_)
  refine oE (ev_one rfl .int rfl elI) rfl ?_
  rintro _ _ _ _ ⟨rfl, bt, rfl, rfl⟩
  refine oPersist fun hh hA hd => ?_
  have hrow : NumRow (F.un hh) (.slice (some ⟨bt, 0, none⟩) 1 1) [x.op] := NumRow.of_blk hA hd (by simpa using hx.op)
  have hG := PH.le_l F hh
  generalize F.un hh = G at *
  refine oC (Hc := bld b (pW b) v bs) (Hr := blk b3 23 (coC x) :: X) (wints_spec b v _ bs [x.op] G (hT.mono hG) h h0 hrow (by simp) (by simp; omega)) Tryd.call21 rfl rfl (fun _ s => Sat.front (A := [_]) s) ?_
  rintro u1 F1 _ hF1 ⟨v1, rfl, hv1⟩
  refine oW (F' := F1) (H' := blk b3 23 (coC x) :: (bld b (pW b) v1 (bs ++ spW (nums [x.op])) ++ X)) ?_ (fun w s => Sat.front (A := bld b (pW b) v1 (bs ++ spW (nums [x.op]))) (B := [_]) s)
  have n1 : bs ++ spW (nums [x.op]) ≠ [] := by simp [h0]
  have l1 : (bs ++ spW (nums [x.op])).length ≤ bs.length + 22 := by rw [List.length_append]; simp [spW, nums]; omega
  generalize bs ++ spW (nums [x.op]) = bs1 at *
  unfold coC
  repeat (first|refine zJ rfl rfl ?_|refine jr rfl ?_|refine jn ?_|refine zM rfl rfl ?_|(refine zC rfl rfl ?_ rfl ?_;omega)|(refine zD rfl rfl ?_ rfl ?_;omega)|(refine zP rfl ?_ rfl ?_;omega)|refine zG rfl rfl rfl rfl ?_|(refine jdq rfl rfl ?_ ?_ ?_;kernel_rfl;kernel_rfl)|refine zB rfl rfl rfl (by repeat constructor) rfl ?_|refine zH .here rfl rfl rfl rfl ?_|refine zH (.there .here) rfl rfl rfl rfl ?_|refine zH (.there (.there .here)) rfl rfl rfl rfl ?_|refine zH (.there (.there (.there .here))) rfl rfl rfl rfl ?_|refine zH (.there (.there (.there (.there .here)))) rfl rfl rfl rfl ?_)
  refine oC (Hc := bld b (pW b) v1 bs1) (Hr := blk b3 23 (coC x) :: X) (word_spec b (pW b) v1 bs1 x.letter F1 hv1 (by omega)) Tryd.call19 rfl rfl (fun _ s => Sat.front (A := [_]) s) ?_
  rintro u2 F2 _ hF2 ⟨v2, rfl, hv2⟩
  rw [addW_ne _ n1] at hv2 ⊢
  refine oW (F' := F2) (H' := blk b3 23 (coC x) :: (bld b (pW b) v2 (bs1 ++ spW [x.letter]) ++ X)) ?_ (fun w s => Sat.front (A := bld b (pW b) v2 (bs1 ++ spW [x.letter])) (B := [_]) s)
  have n2 : bs1 ++ spW [x.letter] ≠ [] := by simp [n1]
  have l2 : (bs1 ++ spW [x.letter]).length ≤ bs.length + 2000000 := by rw [List.length_append]; simp [spW]; omega
  generalize bs1 ++ spW [x.letter] = bs2 at *
  unfold coC
  repeat (first|refine zJ rfl rfl ?_|refine jr rfl ?_|refine jn ?_|refine zM rfl rfl ?_|(refine zC rfl rfl ?_ rfl ?_;omega)|(refine zD rfl rfl ?_ rfl ?_;omega)|(refine zP rfl ?_ rfl ?_;omega)|refine zG rfl rfl rfl rfl ?_|(refine jdq rfl rfl ?_ ?_ ?_;kernel_rfl;kernel_rfl)|refine zB rfl rfl rfl (by repeat constructor) rfl ?_|refine zH .here rfl rfl rfl rfl ?_|refine zH (.there .here) rfl rfl rfl rfl ?_|refine zH (.there (.there .here)) rfl rfl rfl rfl ?_|refine zH (.there (.there (.there .here))) rfl rfl rfl rfl ?_|refine zH (.there (.there (.there (.there .here)))) rfl rfl rfl rfl ?_)
  refine oE (ev_buildSlice (E := 2) (zs := [.int .i64 0]) (r := [.int .i64 0, .int .i64 0]) (t := ints [x.a, x.b]) rfl rfl rfl rfl rfl rfl (.cons .int rfl (by repeat constructor) (.cons .int rfl (by repeat constructor) .nil))) rfl ?_
  rintro _ _ _ _ ⟨rfl, b4, rfl, rfl⟩
  refine oPersist fun hh hA hd => ?_
  have hrow2 : NumRow (F2.un hh) (.slice (some ⟨b4, 0, none⟩) 2 2) [x.a, x.b] := NumRow.of_blk hA hd (by simpa using ⟨hx.a, hx.b⟩)
  have hG2 := PH.le_l F2 hh
  have hT2 := ((hT.mono hG).mono hF1).mono hF2
  generalize F2.un hh = G2 at *
  refine oC (Hc := bld b (pW b) v2 bs2) (Hr := blk b3 23 (coC x) :: X) (numbers_spec b v2 _ bs2 [x.a, x.b] G2 (hT2.mono hG2) hv2 n2 hrow2 (by simp) (by simp; omega)) Tryd.call23 rfl rfl (fun _ s => Sat.front (A := [_]) s) ?_
  rintro u3 F3 _ hF3 ⟨v3, rfl, hv3⟩
  refine oW (F' := F3) (H' := blk b3 23 (coC x) :: (bld b (pW b) v3 (bs2 ++ spW (nums [x.a, x.b])) ++ X)) ?_ (fun w s => Sat.front (A := bld b (pW b) v3 (bs2 ++ spW (nums [x.a, x.b]))) (B := [_]) s)
  have n3 : bs2 ++ spW (nums [x.a, x.b]) ≠ [] := by simp [n2]
  have l3 : (bs2 ++ spW (nums [x.a, x.b])).length ≤ bs.length + 3000000 := by rw [List.length_append]; simp [spW, nums]; omega
  generalize bs2 ++ spW (nums [x.a, x.b]) = bs3 at *
  unfold coC
  repeat (first|refine zJ rfl rfl ?_|refine jr rfl ?_|refine jn ?_|refine zM rfl rfl ?_|(refine zC rfl rfl ?_ rfl ?_;omega)|(refine zD rfl rfl ?_ rfl ?_;omega)|(refine zP rfl ?_ rfl ?_;omega)|refine zG rfl rfl rfl rfl ?_|(refine jdq rfl rfl ?_ ?_ ?_;kernel_rfl;kernel_rfl)|refine zB rfl rfl rfl (by repeat constructor) rfl ?_|refine zH .here rfl rfl rfl rfl ?_|refine zH (.there .here) rfl rfl rfl rfl ?_|refine zH (.there (.there .here)) rfl rfl rfl rfl ?_|refine zH (.there (.there (.there .here))) rfl rfl rfl rfl ?_|refine zH (.there (.there (.there (.there .here)))) rfl rfl rfl rfl ?_)
  refine oE (eb_bytes rfl) rfl ?_
  rintro u4 F4 _ hF4 ⟨h4, rfl⟩
  refine oC (Hc := bld b (pW b) v3 bs3) (Hr := blk b3 23 (coC x) :: X) (wbytes_spec b v3 u4 bs3 x.text F4 hv3 n3 h4 (by omega) (by omega)) Tryd.call24 rfl rfl (fun _ s => Sat.front (A := [_]) s) ?_
  rintro u5 F5 _ hF5 ⟨v5, rfl, hv5⟩
  repeat (first|refine zJ rfl rfl ?_|refine jr rfl ?_|refine jn ?_|refine zM rfl rfl ?_|(refine zC rfl rfl ?_ rfl ?_;omega)|(refine zD rfl rfl ?_ rfl ?_;omega)|(refine zP rfl ?_ rfl ?_;omega)|refine zG rfl rfl rfl rfl ?_|(refine jdq rfl rfl ?_ ?_ ?_;kernel_rfl;kernel_rfl)|refine zB rfl rfl rfl (by repeat constructor) rfl ?_|refine zH .here rfl rfl rfl rfl ?_|refine zH (.there .here) rfl rfl rfl rfl ?_|refine zH (.there (.there .here)) rfl rfl rfl rfl ?_|refine zH (.there (.there (.there .here))) rfl rfl rfl rfl ?_|refine zH (.there (.there (.there (.there .here)))) rfl rfl rfl rfl ?_)
  exact J_fin rfl (bld b (pW b) v5 (bs3 ++ spW [hexB x.text])) (fun w s => (Sat.front (A := bld b (pW b) v5 (bs3 ++ spW [hexB x.text])) (B := [_]) s).drop) (hG.trans (hF1.trans (hF2.trans (hG2.trans (hF3.trans (hF4.trans hF5)))))) ⟨v5, rfl, hv5⟩
end Go.Proofs.YtekdmpbkcjjllaaDoor
