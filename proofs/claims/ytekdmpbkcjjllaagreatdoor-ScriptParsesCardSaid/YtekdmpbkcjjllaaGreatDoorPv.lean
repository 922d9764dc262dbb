/-
  The document's words: Split, ints, readCore.
  The document's words: ints, readCore.
-/
import Derived.Test.YtekdmpbkcjjllaaGreatDoorPs
namespace Go.Proofs.YtekdmpbkcjjllaaGreatDoor
open Go.RowKit
set_option maxRecDepth 100000
theorem splW_snoc (c d : UInt8) : ∀ (s : W8) (D : List W8) (w : W8), splW c s = D ++ [w] → splW c (s ++ [d]) = if d = c then D ++ [w, []] else D ++ [w ++ [d]]
  | [], D, w, h => by
    have h1 : splW c [] = [] ++ [([] : W8)] := rfl
    rw [h1] at h
    obtain ⟨rfl, e⟩ := List.append_inj' h rfl
    cases e
    show splW c [d] = _
    by_cases hd : d = c <;> simp [splW, hd]
  | b :: r, D, w, h => by
    obtain ⟨D', w', hr⟩ : ∃ D' w', splW c r = D' ++ [w'] := by
      rcases List.eq_nil_or_concat (splW c r) with e | ⟨L, x, e⟩
      · exact absurd e (splW_ne c r)
      · exact ⟨L, x, by simpa using e⟩
    have ih := splW_snoc c d r D' w' hr
    by_cases hb : b = c
    · have e1 : splW c (b :: r) = [] :: splW c r := by simp [splW, hb]
      have e2 : splW c (b :: r ++ [d]) = [] :: splW c (r ++ [d]) := by simp [splW, hb]
      rw [e1, hr, ← List.cons_append] at h
      obtain ⟨rfl, e⟩ := List.append_inj' h rfl
      cases e
      rw [e2, ih]
      split <;> simp
    · cases D' with
      | nil =>
        have e1 : splW c (b :: r) = [] ++ [b :: w'] := by simp [splW, hb, hr]
        rw [e1] at h
        obtain ⟨rfl, e⟩ := List.append_inj' h rfl
        cases e
        show splW c (b :: (r ++ [d])) = _
        rw [splW, if_neg hb, ih]
        by_cases hd : d = c <;> simp [hd]
      | cons y ys =>
        have e1 : splW c (b :: r) = ((b :: y) :: ys) ++ [w'] := by simp [splW, hb, hr]
        rw [e1] at h
        obtain ⟨rfl, e⟩ := List.append_inj' h rfl
        cases e
        show splW c (b :: (r ++ [d])) = _
        rw [splW, if_neg hb, ih]
        by_cases hd : d = c <;> simp [hd]
theorem ev_sub1 {P : Program} {l : Env} {F : PH} {H : List Asrt} {d : Option Nat} {T U : TypeId} {pos : String} {af : Array Edge} {g : Option (Nat × Bool)} {x y z : Operand} {s : W8} {i : Nat} {k k' : IntKind} {c : UInt8} (hx : opv l x = some (.string (strOf s))) (hy : opv l y = some (.int k (i : Int))) (hz : opv l z = some (.int k' ((i : Int) + 1))) (hu : P.underlying T = some .string) (hc : s[i]? = some c) :
    Ev P ⟨d, .slice T x (some y) (some z) none, U, pos, af, g⟩ l F H (.string (strOf [c])) := .of fun ρ hρ w _ => by
  have e1 := hρ _ _ hx; have e2 := hρ _ _ hy; have e3 := hρ _ _ hz
  have hlt := (List.getElem?_eq_some_iff.1 hc).1
  have hsz := strOf_size s
  have h1 : (i : Int) + 1 ≤ ((strOf s).size : Int) := by omega
  have h2 : (i : Int) ≤ (i : Int) + 1 := by omega
  have h3 : (0 : Int) ≤ (i : Int) + 1 := by omega
  have h4 : (i : Int) ≤ ((strOf s).size : Int) := by omega
  have h5 : ((i : Int) + 1).toNat = i + 1 := by omega
  have hex : (strOf s).extract i (i + 1) = strOf [c] := by
    apply ByteArray.ext
    apply Array.ext'
    have hg := (List.getElem?_eq_some_iff.1 hc).2
    simp [strOf, List.extract, hlt]
    rw [List.drop_eq_getElem_cons hlt, hg]
    simp
  simp [execOp, e1, e2, e3, go_sem, Instr.sliceAt, Instr.slice, run_underlying hu, Instr.sliceBounds, Instr.sliceBound, asIntOf, h1, h2, h3, h4, h5, hex]
theorem strC_app (a b : List W8) : strC (a ++ b) = strC a ++ strC b := by simp [strC]
theorem strC_len (a : List W8) : (strC a).length = a.length := by simp [strC]
theorem elS : Elem Tryz.prog 47 9 1 16 (.string (strOf [])) := ⟨rfl, ⟨_, rfl, rfl, rfl, rfl, rfl, by decide⟩, rfl, rfl⟩
theorem lay_last (a : List Value) (u v : Value) : Lay a.length [v] (a ++ [u]) (a ++ [v]) := by
  have := lay_pre a (i := 0) (.put .nil : Lay 0 [v] [u] [v])
  simpa using this
set_option maxHeartbeats 8000000 in
theorem dsplit_spec (s : W8) (by_ : UInt8) (F : PH) (hs : s.length ≤ 1900000) : Spec Tryz.prog 15 [.string (strOf s), .int .u8 (by_.toNat : Int)] F [] fun u F' H' => H' = [] ∧ WRow F' u (splW by_ s) := by
  have hsz := strOf_size s
  refine Spec.of2 Tryz.func15 rfl rfl fun X w0 => ?_
  repeat (first|refine zJ rfl rfl ?_|refine jr rfl ?_|refine jn ?_|refine zM rfl rfl ?_|(refine zC rfl rfl ?_ rfl ?_;omega)|(refine zD rfl rfl ?_ rfl ?_;omega)|(refine zP rfl ?_ rfl ?_;omega)|refine zG rfl rfl rfl rfl ?_|(refine jdq rfl rfl ?_ ?_ ?_;kernel_rfl;kernel_rfl)|refine zB rfl rfl rfl (by repeat constructor) rfl ?_|refine zH .here rfl rfl rfl rfl ?_|refine zH (.there .here) rfl rfl rfl rfl ?_|refine zH (.there (.there .here)) rfl rfl rfl rfl ?_)
  refine oE (ev_buildSlice (E := 9) (zs := [.string (strOf [])]) (r := [.string (strOf [])]) (t := strC ([] ++ [[]])) rfl rfl rfl rfl rfl rfl (.cons .string rfl (by repeat constructor) .nil)) rfl ?_
  rintro _ _ _ _ ⟨rfl, g0, rfl, rfl⟩
  repeat (first|refine zJ rfl rfl ?_|refine jr rfl ?_|refine jn ?_|refine zM rfl rfl ?_|(refine zC rfl rfl ?_ rfl ?_;omega)|(refine zD rfl rfl ?_ rfl ?_;omega)|(refine zP rfl ?_ rfl ?_;omega)|refine zG rfl rfl rfl rfl ?_|(refine jdq rfl rfl ?_ ?_ ?_;kernel_rfl;kernel_rfl)|refine zB rfl rfl rfl (by repeat constructor) rfl ?_|refine zH .here rfl rfl rfl rfl ?_|refine zH (.there .here) rfl rfl rfl rfl ?_|refine zH (.there (.there .here)) rfl rfl rfl rfl ?_)
  refine J_weak ?_ fun w s => s.turn (blk_own (n := 1) (size := 1) rfl (by decide))
  refine J_loop (ι := Nat × List W8 × W8 × Value) (fun p => p.1 ≤ s.length ∧ splW by_ (s.take p.1) = p.2.1 ++ [p.2.2.1] ∧ p.2.1.length ≤ p.1) (fun p => s.length - p.1) (fun p => [(0, .string (strOf s)), (1, .int .u8 (by_.toNat : Int)), (5, p.2.2.2), (6, .int .i64 p.1)]) (fun _ => F) (fun p => own p.2.2.2 9 1 (p.2.1.length + 1) (strC (p.2.1 ++ [p.2.2.1])) :: X) (0, [], [], .slice (some ⟨g0, 0, none⟩) 1 1) ⟨Nat.zero_le _, rfl, Nat.le_refl _⟩ ⟨⟨rfl, rfl, rfl, rfl, trivial⟩, fun w s => s⟩ ?_
  rintro ⟨i, D, w, v⟩ ⟨hi, hsp, hD⟩
  dsimp only at *
  refine jWith .here (q := ∃ g c, v = .slice (some ⟨g, 0, none⟩) (D.length + 1) c ∧ D.length + 1 ≤ c) (fun h' ho => own_form ho (Nat.succ_pos _)) fun ⟨g, c, hv, hdc⟩ => ?_
  subst hv
  by_cases hlt : i < s.length
  · have hg : s[i]? = some s[i] := List.getElem?_eq_getElem hlt
    have hsn := splW_snoc by_ s[i] (s.take i) D w hsp
    have htk : s.take (i + 1) = s.take i ++ [s[i]] := by rw [List.take_add_one, hg]; rfl
    rw [← htk] at hsn
    have hwl : w.length ≤ s.length := by
      have := splW_mem by_ (s.take i) w (by rw [hsp]; simp)
      rw [List.length_take] at this
      omega
    generalize s[i] = x at *
    have hxe : x = by_ ↔ x.toNat = by_.toNat := UInt8.toNat_inj.symm
    repeat (first|refine zJ rfl rfl ?_|refine jr rfl ?_|refine jn ?_|refine zM rfl rfl ?_|(refine zC rfl rfl ?_ rfl ?_;omega)|(refine zD rfl rfl ?_ rfl ?_;omega)|(refine zP rfl ?_ rfl ?_;omega)|refine zG rfl rfl rfl rfl ?_|(refine jdq rfl rfl ?_ ?_ ?_;kernel_rfl;kernel_rfl)|refine zB rfl rfl rfl (by repeat constructor) rfl ?_|refine zH .here rfl rfl rfl rfl ?_|refine zH (.there .here) rfl rfl rfl rfl ?_|refine zH (.there (.there .here)) rfl rfl rfl rfl ?_)
    refine oS (ev_ix (bs := s) (c := x) rfl rfl rfl hg) rfl ?_
    by_cases hx : x.toNat = by_.toNat
    · rw [if_pos (hxe.2 hx)] at hsn
      repeat (first|refine zJ rfl rfl ?_|refine jr rfl ?_|refine jn ?_|refine zM rfl rfl ?_|(refine zC rfl rfl ?_ rfl ?_;omega)|(refine zD rfl rfl ?_ rfl ?_;omega)|(refine zP rfl ?_ rfl ?_;omega)|refine zG rfl rfl rfl rfl ?_|(refine jdq rfl rfl ?_ ?_ ?_;kernel_rfl;kernel_rfl)|refine zB rfl rfl rfl (by repeat constructor) rfl ?_|refine zH .here rfl rfl rfl rfl ?_|refine zH (.there .here) rfl rfl rfl rfl ?_|refine zH (.there (.there .here)) rfl rfl rfl rfl ?_)
      refine oA (n := D.length + 1) (xs := strC (D ++ [w])) (size := 1) (bytes := 16) (vs := [.string (strOf [])]) (K := fun v' => own v' 9 1 (D.length + 1 + 1) (strC (D ++ [w]) ++ [.string (strOf [])]) :: X) (fun _ => rfl) rfl .string rfl elS (ones_cons rfl ones_nil) (by omega) (fun v' => .here) rfl (fun _ => rfl) fun u2 w2 => ?_
      repeat (first|refine zJ rfl rfl ?_|refine jr rfl ?_|refine jn ?_|refine zM rfl rfl ?_|(refine zC rfl rfl ?_ rfl ?_;omega)|(refine zD rfl rfl ?_ rfl ?_;omega)|(refine zP rfl ?_ rfl ?_;omega)|refine zG rfl rfl rfl rfl ?_|(refine jdq rfl rfl ?_ ?_ ?_;kernel_rfl;kernel_rfl)|refine zB rfl rfl rfl (by repeat constructor) rfl ?_|refine zH .here rfl rfl rfl rfl ?_|refine zH (.there .here) rfl rfl rfl rfl ?_|refine zH (.there (.there .here)) rfl rfl rfl rfl ?_)
      refine J_again (ι := Nat × List W8 × W8 × Value) (i + 1, D ++ [w], [], u2) ⟨hlt, by dsimp only; rw [hsn]; simp, by simp; omega⟩ (by dsimp only; omega) ⟨⟨rfl, rfl, rfl, rfl, trivial⟩, fun w s => ?_⟩
      dsimp only
      rw [strC_app _ [[]], List.length_append, List.length_singleton]
      exact s
    · rw [if_neg (fun e => hx (hxe.1 e))] at hsn
      have hrd : Rdb F (own (.slice (some ⟨g, 0, none⟩) (D.length + 1) c) 9 1 (D.length + 1) (strC (D ++ [w])) :: X) g (0 + D.length * 1) [.string (strOf w)] := by
        have := (own_rdb (F := F) (b := g) (c := c) (.here : Pick _ (own (.slice (some ⟨g, 0, none⟩) (D.length + 1) c) 9 1 (D.length + 1) (strC (D ++ [w])) :: X) X)).take D.length 1
        rw [strC_app, Nat.mul_one]
        rw [strC_app, List.drop_left' (strC_len D)] at this
        exact this
      repeat (first|refine zJ rfl rfl ?_|refine jr rfl ?_|refine jn ?_|refine zM rfl rfl ?_|(refine zC rfl rfl ?_ rfl ?_;omega)|(refine zD rfl rfl ?_ rfl ?_;omega)|(refine zP rfl ?_ rfl ?_;omega)|refine zG rfl rfl rfl rfl ?_|(refine jdq rfl rfl ?_ ?_ ?_;kernel_rfl;kernel_rfl)|refine zB rfl rfl rfl (by repeat constructor) rfl ?_|refine zH .here rfl rfl rfl rfl ?_|refine zH (.there .here) rfl rfl rfl rfl ?_|refine zH (.there (.there .here)) rfl rfl rfl rfl ?_)
      refine jdl rfl ?_ ?_ ?_ ?_; kernel_rfl; kernel_rfl; kernel_rfl; dsimp only [List.dropLast]
      repeat (first|refine zJ rfl rfl ?_|refine jr rfl ?_|refine jn ?_|refine zM rfl rfl ?_|(refine zC rfl rfl ?_ rfl ?_;omega)|(refine zD rfl rfl ?_ rfl ?_;omega)|(refine zP rfl ?_ rfl ?_;omega)|refine zG rfl rfl rfl rfl ?_|(refine jdq rfl rfl ?_ ?_ ?_;kernel_rfl;kernel_rfl)|refine zB rfl rfl rfl (by repeat constructor) rfl ?_|refine zH .here rfl rfl rfl rfl ?_|refine zH (.there .here) rfl rfl rfl rfl ?_|refine zH (.there (.there .here)) rfl rfl rfl rfl ?_)
      refine oS (ev_indexAddr (i := D.length) rfl (by first | rfl | exact congrArg (fun z : Int => some (Value.int .i64 z)) (by omega)) rfl (by omega)) rfl ?_
      refine oS (ev_load rfl rfl hrd) rfl ?_
      repeat (first|refine zJ rfl rfl ?_|refine jr rfl ?_|refine jn ?_|refine zM rfl rfl ?_|(refine zC rfl rfl ?_ rfl ?_;omega)|(refine zD rfl rfl ?_ rfl ?_;omega)|(refine zP rfl ?_ rfl ?_;omega)|refine zG rfl rfl rfl rfl ?_|(refine jdq rfl rfl ?_ ?_ ?_;kernel_rfl;kernel_rfl)|refine zB rfl rfl rfl (by repeat constructor) rfl ?_|refine zH .here rfl rfl rfl rfl ?_|refine zH (.there .here) rfl rfl rfl rfl ?_|refine zH (.there (.there .here)) rfl rfl rfl rfl ?_)
      refine oS (ev_sub1 (s := s) (i := i) (c := x) rfl rfl rfl rfl hg) rfl ?_
      refine oS (ev_cat rfl rfl (by simp; omega)) rfl ?_
      refine oS (ev_indexAddr (i := D.length) rfl (by first | rfl | exact congrArg (fun z : Int => some (Value.int .i64 z)) (by omega)) rfl (by omega)) rfl ?_
      refine jn ?_
      refine jL rfl ?_
      refine oN (ev_store_own (vs := [.string (strOf (w ++ [x]))]) (ys := strC (D ++ [w ++ [x]])) rfl rfl .string rfl rfl (by rw [Nat.zero_add, Nat.mul_one, strC_app, strC_app, ← strC_len D]; exact lay_last _ _ _) (ones_cons rfl ones_nil) .here) rfl ?_
      rintro _ _ _ _ ⟨rfl, _, rfl⟩
      repeat (first|refine zJ rfl rfl ?_|refine jr rfl ?_|refine jn ?_|refine zM rfl rfl ?_|(refine zC rfl rfl ?_ rfl ?_;omega)|(refine zD rfl rfl ?_ rfl ?_;omega)|(refine zP rfl ?_ rfl ?_;omega)|refine zG rfl rfl rfl rfl ?_|(refine jdq rfl rfl ?_ ?_ ?_;kernel_rfl;kernel_rfl)|refine zB rfl rfl rfl (by repeat constructor) rfl ?_|refine zH .here rfl rfl rfl rfl ?_|refine zH (.there .here) rfl rfl rfl rfl ?_|refine zH (.there (.there .here)) rfl rfl rfl rfl ?_)
      exact J_again (ι := Nat × List W8 × W8 × Value) (i + 1, D, w ++ [x], _) ⟨hlt, by dsimp only; rw [hsn], by dsimp only; omega⟩ (by dsimp only; omega) ⟨⟨rfl, rfl, rfl, rfl, trivial⟩, fun w s => s⟩
  · obtain rfl : i = s.length := by omega
    rw [List.take_length] at hsp
    refine J_persist fun hh hA hd => ?_
    have hr := own_slice hA hd
    have hF2 := PH.le_l F hh
    generalize F.un hh = F2 at *
    repeat (first|refine zJ rfl rfl ?_|refine jr rfl ?_|refine jn ?_|refine zM rfl rfl ?_|(refine zC rfl rfl ?_ rfl ?_;omega)|(refine zD rfl rfl ?_ rfl ?_;omega)|(refine zP rfl ?_ rfl ?_;omega)|refine zG rfl rfl rfl rfl ?_|(refine jdq rfl rfl ?_ ?_ ?_;kernel_rfl;kernel_rfl)|refine zB rfl rfl rfl (by repeat constructor) rfl ?_|refine zH .here rfl rfl rfl rfl ?_|refine zH (.there .here) rfl rfl rfl rfl ?_|refine zH (.there (.there .here)) rfl rfl rfl rfl ?_)
    refine J_ret1 rfl rfl [] rfl hF2 ⟨rfl, ?_, fun y hy => Nat.le_trans (splW_mem by_ s y hy) (by omega)⟩
    rw [hsp, List.length_append, List.length_singleton]
    exact hr
end Go.Proofs.YtekdmpbkcjjllaaGreatDoor
namespace Go.Proofs.YtekdmpbkcjjllaaGreatDoor
open Go.RowKit
set_option maxRecDepth 100000
theorem aXB {C : Ctx} {ops : Array Oper} {fuel : Nat} {listed : Array Bool} {k : List KItem} {l : Env} {F Fs : PH} {H Hs : List Asrt} {d i : Nat} {p : Op} {T : TypeId} {pos : String} {af : Array Edge} {g : Option (Nat × Bool)} (ho : ops[i]? = some ⟨some d, p, T, pos, af, g⟩) (hr : runs ops l ⟨some d, p, T, pos, af, g⟩ = some false) (hN : Nat.blt d C.N = true)
    (h : JA C (Sat Fs Hs) ops fuel (listed.setIfInBounds i true) k ((d, undef) :: l) F H) : JA1 C (Sat Fs Hs) ops fuel listed i k l F H := by
  unfold JA at h
  unfold JA1
  intro hS a w ha hm hs
  have hd : d < C.N := Nat.le_of_ble_eq_true hN
  unfold wpOp
  rw [ho]
  dsimp only
  rw [if_neg (by rw [runs_wanted hr ha]; simp)]
  exact ⟨hS w hs, h hS _ w (ha.put hd undef) hm hs⟩
theorem WRow.cut {F : PH} {a : Option Addr} {c lo hi : Nat} {ws : List W8} (h : WRow F (.slice a ws.length c) ws) (h1 : lo ≤ hi) (h2 : hi ≤ ws.length) : WRow F (cutV a 1 c lo hi c) ((ws.drop lo).take (hi - lo)) := by
  obtain ⟨_, a', c', e, hnc, _⟩ := id h.1
  cases e
  have h3 := SliceV.cut h.1 (lo := lo) (hi := hi) (m := c) h1 h2 (by omega)
  refine ⟨?_, fun w hw => h.2 w (List.mem_of_mem_drop (List.mem_of_mem_take hw))⟩
  have e1 : ((strC ws).drop (lo * 1)).take ((hi - lo) * 1) = strC ((ws.drop lo).take (hi - lo)) := by
    rw [Nat.mul_one, Nat.mul_one]
    simp [strC, List.map_drop, List.map_take]
  rw [e1] at h3
  rw [List.length_take, List.length_drop, Nat.min_eq_left (by omega)]
  exact h3
theorem WRow.form {F : PH} {v : Value} {ws : List W8} (h : WRow F v ws) : ∃ a c, v = .slice a ws.length c ∧ ws.length ≤ c ∧ ∀ (j : Nat) (x : W8), ws[j]? = some x → ∃ b off, a = some ⟨b, off, none⟩ ∧ Cells F b (off + j * 1) [.string (strOf x)] := by
  obtain ⟨_, a, c, e, h1, h2⟩ := slice1 h.1
  exact ⟨a, c, e, h1, h2⟩
def IQ (r : Option (List Int)) (u : Value) (F' : PH) : Prop := ∃ v, u = .tuple #[v, .bool r.isSome] ∧ NumRow F' v (r.getD [])
theorem allW_app {α : Type} {f : W8 → Option α} {w : W8} {r : List W8} {t : Option (List α)} {acc : List α} (h : t = (allW f (w :: r)).map fun l => acc ++ l) :
    (∀ x, f w = some x → t = (allW f r).map fun l => (acc ++ [x]) ++ l) ∧ (f w = none → t = none) := by
  rw [allW_cons] at h
  refine ⟨fun x e => ?_, fun e => ?_⟩
  · rw [h, e, Option.bind_some, Option.map_map]
    cases allW f r <;> simp
  · rw [h, e]; rfl
set_option maxHeartbeats 8000000 in
theorem dints_spec (v : Value) (ws : List W8) (F : PH) (h : WRow F v ws) (hwl : ws.length ≤ 2000000) : Spec Tryz.prog 16 [v] F [] fun u F' H' => H' = [] ∧ IQ (allW numW ws) u F' := by
  have hlen := h.2
  obtain ⟨a, c, rfl, hc, hat⟩ := h.form
  refine Spec.of1 Tryz.func16 rfl rfl fun X w0 => ?_
  repeat (first|refine zJ rfl rfl ?_|refine jr rfl ?_|refine jn ?_|refine zM rfl rfl ?_|(refine zC rfl rfl ?_ rfl ?_;omega)|(refine zD rfl rfl ?_ rfl ?_;omega)|(refine zP rfl ?_ rfl ?_;omega)|refine zG rfl rfl rfl rfl ?_|(refine jdq rfl rfl ?_ ?_ ?_;kernel_rfl;kernel_rfl)|refine zB rfl rfl rfl (by repeat constructor) rfl ?_|refine zH .here rfl rfl rfl rfl ?_|refine zH (.there .here) rfl rfl rfl rfl ?_|refine zH (.there (.there .here)) rfl rfl rfl rfl ?_)
  refine J_own_nil 3 1 ?_
  refine J_loop (ι := Nat × List Int × Value × PH) (fun p => p.1 ≤ ws.length ∧ F.le p.2.2.2 ∧ (∀ n ∈ p.2.1, InI n) ∧ p.2.1.length = p.1 ∧ allW numW ws = (allW numW (ws.drop p.1)).map fun l => p.2.1 ++ l) (fun p => ws.length - p.1) (fun p => [(4, p.2.2.1), (9, .slice a ws.length c), (10, .int .i64 ws.length), (11, .int .i64 p.1)]) (fun p => p.2.2.2) (fun p => own p.2.2.1 3 1 p.2.1.length (ints p.2.1) :: X) (0, [], .slice none 0 0, F) ⟨Nat.zero_le _, PH.ler _, by simp, rfl, by simp⟩ ⟨⟨rfl, rfl, rfl, rfl, trivial⟩, fun w s => s⟩ ?_
  rintro ⟨i, l, u, G⟩ ⟨hi, hG, hin, hl, hall⟩
  dsimp only at *
  by_cases hlt : i < ws.length
  · have hg : ws[i]? = some ws[i] := List.getElem?_eq_getElem hlt
    have hdr : ws.drop i = ws[i] :: ws.drop (i + 1) := List.drop_eq_getElem_cons hlt
    have hwlen := hlen ws[i] (List.getElem_mem hlt)
    obtain ⟨b1, o1, rfl, hcc⟩ := hat i ws[i] hg
    rw [hdr] at hall
    generalize ws[i] = w at *
    obtain ⟨hyes, hno⟩ := allW_app hall
    repeat (first|refine zJ rfl rfl ?_|refine jr rfl ?_|refine jn ?_|refine zM rfl rfl ?_|(refine zC rfl rfl ?_ rfl ?_;omega)|(refine zD rfl rfl ?_ rfl ?_;omega)|(refine zP rfl ?_ rfl ?_;omega)|refine zG rfl rfl rfl rfl ?_|(refine jdq rfl rfl ?_ ?_ ?_;kernel_rfl;kernel_rfl)|refine zB rfl rfl rfl (by repeat constructor) rfl ?_|refine zH .here rfl rfl rfl rfl ?_|refine zH (.there .here) rfl rfl rfl rfl ?_|refine zH (.there (.there .here)) rfl rfl rfl rfl ?_)
    refine oS (ev_indexAddr rfl rfl rfl hlt) rfl ?_
    refine oS (ev_load rfl rfl (Rdb.ofF (hcc.mono hG))) rfl ?_
    repeat (first|refine zJ rfl rfl ?_|refine jr rfl ?_|refine jn ?_|refine zM rfl rfl ?_|(refine zC rfl rfl ?_ rfl ?_;omega)|(refine zD rfl rfl ?_ rfl ?_;omega)|(refine zP rfl ?_ rfl ?_;omega)|refine zG rfl rfl rfl rfl ?_|(refine jdq rfl rfl ?_ ?_ ?_;kernel_rfl;kernel_rfl)|refine zB rfl rfl rfl (by repeat constructor) rfl ?_|refine zH .here rfl rfl rfl rfl ?_|refine zH (.there .here) rfl rfl rfl rfl ?_|refine zH (.there (.there .here)) rfl rfl rfl rfl ?_)
    refine oC (Hc := []) (Hr := own u 3 1 l.length (ints l) :: X) (number_spec w G hwlen) Tryz.call43 rfl rfl (fun _ s => s) ?_
    rintro _ G1 _ hG1 ⟨rfl, n, rfl, hn, hnw⟩
    cases e : numW w with
    | none =>
      dsimp only [Option.isSome]
      repeat (first|refine zJ rfl rfl ?_|refine jr rfl ?_|refine jn ?_|refine zM rfl rfl ?_|(refine zC rfl rfl ?_ rfl ?_;omega)|(refine zD rfl rfl ?_ rfl ?_;omega)|(refine zP rfl ?_ rfl ?_;omega)|refine zG rfl rfl rfl rfl ?_|(refine jdq rfl rfl ?_ ?_ ?_;kernel_rfl;kernel_rfl)|refine zB rfl rfl rfl (by repeat constructor) rfl ?_|refine zH .here rfl rfl rfl rfl ?_|refine zH (.there .here) rfl rfl rfl rfl ?_|refine zH (.there (.there .here)) rfl rfl rfl rfl ?_)
      rw [hno e]
      exact J_retv (vs := [.slice none 0 0, .bool false]) rfl (.tmp rfl (.tmp rfl .nil)) [] (fun w s => s.drop) (hG.trans hG1) ⟨rfl, _, rfl, NumRow.nil _⟩
    | some x =>
      obtain rfl := hnw x e
      dsimp only [Option.isSome]
      have e2 : ints l ++ [.int .i64 n] = ints (l ++ [n]) := by simp [ints]
      repeat (first|refine zJ rfl rfl ?_|refine jr rfl ?_|refine jn ?_|refine zM rfl rfl ?_|(refine zC rfl rfl ?_ rfl ?_;omega)|(refine zD rfl rfl ?_ rfl ?_;omega)|(refine zP rfl ?_ rfl ?_;omega)|refine zG rfl rfl rfl rfl ?_|(refine jdq rfl rfl ?_ ?_ ?_;kernel_rfl;kernel_rfl)|refine zB rfl rfl rfl (by repeat constructor) rfl ?_|refine zH .here rfl rfl rfl rfl ?_|refine zH (.there .here) rfl rfl rfl rfl ?_|refine zH (.there (.there .here)) rfl rfl rfl rfl ?_)
      refine oA (n := l.length) (xs := ints l) (size := 1) (bytes := 8) (vs := [.int .i64 n]) (K := fun v' => own v' 3 1 (l.length + 1) (ints l ++ [.int .i64 n]) :: X) (fun _ => rfl) rfl .int rfl elI (ones_cons rfl ones_nil) (by omega) (fun v' => .here) rfl (fun _ => rfl) fun u2 w2 => ?_
      repeat (first|refine zJ rfl rfl ?_|refine jr rfl ?_|refine jn ?_|refine zM rfl rfl ?_|(refine zC rfl rfl ?_ rfl ?_;omega)|(refine zD rfl rfl ?_ rfl ?_;omega)|(refine zP rfl ?_ rfl ?_;omega)|refine zG rfl rfl rfl rfl ?_|(refine jdq rfl rfl ?_ ?_ ?_;kernel_rfl;kernel_rfl)|refine zB rfl rfl rfl (by repeat constructor) rfl ?_|refine zH .here rfl rfl rfl rfl ?_|refine zH (.there .here) rfl rfl rfl rfl ?_|refine zH (.there (.there .here)) rfl rfl rfl rfl ?_)
      refine J_again (ι := Nat × List Int × Value × PH) (i + 1, l ++ [n], u2, G1) ⟨hlt, hG.trans hG1, ?_, by simp [hl], hyes n e⟩ (by dsimp only; omega) ⟨⟨rfl, rfl, rfl, rfl, trivial⟩, fun w s => ?_⟩
      · intro m hm
        rcases List.mem_append.1 hm with hm | hm
        · exact hin m hm
        · simp at hm; subst hm; exact hn
      · dsimp only
        rw [← e2, List.length_append, List.length_singleton]
        exact s
  · obtain rfl : i = ws.length := by omega
    rw [List.drop_length] at hall
    refine J_persist fun hh hA hd => ?_
    have hrow : NumRow (G.un hh) u l := ⟨own_slice hA hd, hin⟩
    have hG2 := PH.le_l G hh
    generalize G.un hh = G2 at *
    rw [hall]
    simp only [allW, Option.map_some, List.append_nil]
    repeat (first|refine zJ rfl rfl ?_|refine jr rfl ?_|refine jn ?_|refine zM rfl rfl ?_|(refine zC rfl rfl ?_ rfl ?_;omega)|(refine zD rfl rfl ?_ rfl ?_;omega)|(refine zP rfl ?_ rfl ?_;omega)|refine zG rfl rfl rfl rfl ?_|(refine jdq rfl rfl ?_ ?_ ?_;kernel_rfl;kernel_rfl)|refine zB rfl rfl rfl (by repeat constructor) rfl ?_|refine zH .here rfl rfl rfl rfl ?_|refine zH (.there .here) rfl rfl rfl rfl ?_|refine zH (.there (.there .here)) rfl rfl rfl rfl ?_)
    exact J_retv (vs := [u, .bool true]) rfl (.tmp rfl (.tmp rfl .nil)) [] (fun w s => s) (hG.trans hG2) ⟨rfl, u, rfl, hrow⟩
def CQ (r : Option Co) (u : Value) : Prop := ∃ c, u = .tuple #[.agg (coC c).toArray, .bool r.isSome] ∧ CoOk c ∧ ∀ x, r = some x → c = x
theorem coreR5 (w0 w1 w2 w3 w4 : W8) : coreR [w0, w1, w2, w3, w4] = (numW w0).bind fun op => (letterW w1).bind fun le => (numW w2).bind fun a => (numW w3).bind fun b => (bytesW w4).map fun t => ⟨0, 0, op, le, a, b, t⟩ := rfl
theorem CQ.of {w0 w1 w2 w3 w4 : W8} {op a b : Int} {t : W8} {ok : Bool} (hop : InI op) (ha : InI a) (hb : InI b) (hl : w1.length ≤ 2000000) (k0 : ∀ n, numW w0 = some n → op = n) (k2 : ∀ n, numW w2 = some n → a = n) (k3 : ∀ n, numW w3 = some n → b = n) (k4 : ∀ n, bytesW w4 = some n → t = n)
    (hok : ok = ((numW w0).isSome && ((numW w2).isSome && ((numW w3).isSome && ((bytesW w4).isSome && letterB w1))))) : CQ (coreR [w0, w1, w2, w3, w4]) (.tuple #[.agg (coC ⟨0, 0, op, w1, a, b, t⟩).toArray, .bool ok]) := by
  rw [coreR5, hok]
  refine ⟨⟨0, 0, op, w1, a, b, t⟩, ?_, ⟨⟨inI0, inI0, hop, ha, hb⟩, hl, rfl, rfl⟩, ?_⟩
  · unfold letterW
    cases numW w0 <;> cases numW w2 <;> cases numW w3 <;> cases bytesW w4 <;> cases letterB w1 <;> simp
  · intro x hx
    unfold letterW at hx
    cases e0 : numW w0 <;> cases e2 : numW w2 <;> cases e3 : numW w3 <;> cases e4 : bytesW w4 <;> cases el : letterB w1 <;> simp [e0, e2, e3, e4, el] at hx
    rw [← hx, k0 _ e0, k2 _ e2, k3 _ e3, k4 _ e4]
set_option maxHeartbeats 32000000 in
theorem dcore_spec (v : Value) (w0 w1 w2 w3 w4 : W8) (F : PH) (h : WRow F v [w0, w1, w2, w3, w4]) : Spec Tryz.prog 44 [v] F [] fun u F' H' => H' = [] ∧ CQ (coreR [w0, w1, w2, w3, w4]) u := by
  have hlen := h.2
  have n0 := hlen w0 (by simp)
  have n1 := hlen w1 (by simp)
  have n2 := hlen w2 (by simp)
  have n3 := hlen w3 (by simp)
  have n4 := hlen w4 (by simp)
  obtain ⟨a, c, rfl, hc, hat⟩ := h.form
  obtain ⟨b1, o1, rfl, c0⟩ := hat 0 w0 rfl
  obtain ⟨_, _, e, c1⟩ := hat 1 w1 rfl
  cases e
  obtain ⟨_, _, e, c2⟩ := hat 2 w2 rfl
  cases e
  obtain ⟨_, _, e, c3⟩ := hat 3 w3 rfl
  cases e
  obtain ⟨_, _, e, c4⟩ := hat 4 w4 rfl
  cases e
  refine Spec.of1 Tryz.func44 rfl rfl fun X w0_ => ?_
  repeat (first|refine zJ rfl rfl ?_|refine jr rfl ?_|refine jn ?_|refine zM rfl rfl ?_|(refine zC rfl rfl ?_ rfl ?_;omega)|(refine zD rfl rfl ?_ rfl ?_;omega)|(refine zP rfl ?_ rfl ?_;omega)|refine zG rfl rfl rfl rfl ?_|(refine jdq rfl rfl ?_ ?_ ?_;kernel_rfl;kernel_rfl)|refine zB rfl rfl rfl (by repeat constructor) rfl ?_|refine zH .here rfl rfl rfl rfl ?_|refine zH (.there .here) rfl rfl rfl rfl ?_|refine zH (.there (.there .here)) rfl rfl rfl rfl ?_)
  refine oE (ev_alloc rfl) rfl ?_
  rintro _ _ _ _ ⟨rfl, b2, rfl, rfl⟩
  repeat (first|refine zJ rfl rfl ?_|refine jr rfl ?_|refine jn ?_|refine zM rfl rfl ?_|(refine zC rfl rfl ?_ rfl ?_;omega)|(refine zD rfl rfl ?_ rfl ?_;omega)|(refine zP rfl ?_ rfl ?_;omega)|refine zG rfl rfl rfl rfl ?_|(refine jdq rfl rfl ?_ ?_ ?_;kernel_rfl;kernel_rfl)|refine zB rfl rfl rfl (by repeat constructor) rfl ?_|refine zH .here rfl rfl rfl rfl ?_|refine zH (.there .here) rfl rfl rfl rfl ?_|refine zH (.there (.there .here)) rfl rfl rfl rfl ?_)
  refine oS (ev_indexAddr (i := 0) rfl rfl rfl (by show _ < 5; decide)) rfl ?_
  refine oS (ev_load rfl rfl (Rdb.ofF c0)) rfl ?_
  refine oC (Hc := []) (Hr := blk b2 33 (coC zCo) :: X) (number_spec w0 F n0) Tryz.call43 rfl rfl (fun _ s => s) ?_
  rintro _ F1 _ hF1 ⟨rfl, op, rfl, hop, k0⟩
  repeat (first|refine zJ rfl rfl ?_|refine jr rfl ?_|refine jn ?_|refine zM rfl rfl ?_|(refine zC rfl rfl ?_ rfl ?_;omega)|(refine zD rfl rfl ?_ rfl ?_;omega)|(refine zP rfl ?_ rfl ?_;omega)|refine zG rfl rfl rfl rfl ?_|(refine jdq rfl rfl ?_ ?_ ?_;kernel_rfl;kernel_rfl)|refine zB rfl rfl rfl (by repeat constructor) rfl ?_|refine zH .here rfl rfl rfl rfl ?_|refine zH (.there .here) rfl rfl rfl rfl ?_|refine zH (.there (.there .here)) rfl rfl rfl rfl ?_)
  refine oS (ev_indexAddr (i := 2) rfl rfl rfl (by show _ < 5; decide)) rfl ?_
  refine oS (ev_load rfl rfl (Rdb.ofF (c2.mono hF1))) rfl ?_
  refine oC (Hc := []) (Hr := blk b2 33 (coC zCo) :: X) (number_spec w2 F1 n2) Tryz.call43 rfl rfl (fun _ s => s) ?_
  rintro _ F2 _ hF2 ⟨rfl, ca, rfl, ha, k2⟩
  repeat (first|refine zJ rfl rfl ?_|refine jr rfl ?_|refine jn ?_|refine zM rfl rfl ?_|(refine zC rfl rfl ?_ rfl ?_;omega)|(refine zD rfl rfl ?_ rfl ?_;omega)|(refine zP rfl ?_ rfl ?_;omega)|refine zG rfl rfl rfl rfl ?_|(refine jdq rfl rfl ?_ ?_ ?_;kernel_rfl;kernel_rfl)|refine zB rfl rfl rfl (by repeat constructor) rfl ?_|refine zH .here rfl rfl rfl rfl ?_|refine zH (.there .here) rfl rfl rfl rfl ?_|refine zH (.there (.there .here)) rfl rfl rfl rfl ?_)
  refine oS (ev_indexAddr (i := 3) rfl rfl rfl (by show _ < 5; decide)) rfl ?_
  refine oS (ev_load rfl rfl (Rdb.ofF ((c3.mono hF1).mono hF2))) rfl ?_
  refine oC (Hc := []) (Hr := blk b2 33 (coC zCo) :: X) (number_spec w3 F2 n3) Tryz.call43 rfl rfl (fun _ s => s) ?_
  rintro _ F3 _ hF3 ⟨rfl, cb, rfl, hb, k3⟩
  repeat (first|refine zJ rfl rfl ?_|refine jr rfl ?_|refine jn ?_|refine zM rfl rfl ?_|(refine zC rfl rfl ?_ rfl ?_;omega)|(refine zD rfl rfl ?_ rfl ?_;omega)|(refine zP rfl ?_ rfl ?_;omega)|refine zG rfl rfl rfl rfl ?_|(refine jdq rfl rfl ?_ ?_ ?_;kernel_rfl;kernel_rfl)|refine zB rfl rfl rfl (by repeat constructor) rfl ?_|refine zH .here rfl rfl rfl rfl ?_|refine zH (.there .here) rfl rfl rfl rfl ?_|refine zH (.there (.there .here)) rfl rfl rfl rfl ?_)
  refine oS (ev_indexAddr (i := 4) rfl rfl rfl (by show _ < 5; decide)) rfl ?_
  refine oS (ev_load rfl rfl (Rdb.ofF (((c4.mono hF1).mono hF2).mono hF3))) rfl ?_
  refine oC (Hc := []) (Hr := blk b2 33 (coC zCo) :: X) (dbytes_spec w4 F3 n4) Tryz.call45 rfl rfl (fun _ s => s) ?_
  rintro _ F4 _ hF4 ⟨rfl, vt, rfl, hvt⟩
  have k4 : ∀ n, bytesW w4 = some n → (bytesW w4).getD [] = n := fun n e => by rw [e]; rfl
  generalize (bytesW w4).getD [] = t at *
  have c1' := (((c1.mono hF1).mono hF2).mono hF3).mono hF4
  have hle := hF1.trans (hF2.trans (hF3.trans hF4))
  have hvt' := hvt
  have hok := CQ.of (ok := _) hop ha hb n1 k0 k2 k3 k4 rfl
  generalize hr : coreR [w0, w1, w2, w3, w4] = r at *
  generalize (numW w0).isSome = ok0 at *
  generalize (numW w2).isSome = ok2 at *
  generalize (numW w3).isSome = ok3 at *
  generalize (bytesW w4).isSome = ok4 at *
  repeat (first|refine zJ rfl rfl ?_|refine jr rfl ?_|refine jn ?_|refine zM rfl rfl ?_|(refine zC rfl rfl ?_ rfl ?_;omega)|(refine zD rfl rfl ?_ rfl ?_;omega)|(refine zP rfl ?_ rfl ?_;omega)|refine zG rfl rfl rfl rfl ?_|(refine jdq rfl rfl ?_ ?_ ?_;kernel_rfl;kernel_rfl)|refine zB rfl rfl rfl (by repeat constructor) rfl ?_|refine zH .here rfl rfl rfl rfl ?_|refine zH (.there .here) rfl rfl rfl rfl ?_|refine zH (.there (.there .here)) rfl rfl rfl rfl ?_)
  have fin : ∀ ok, ok = (ok0 && (ok2 && (ok3 && (ok4 && letterB w1)))) → CQ r (.tuple #[.agg (coC ⟨0, 0, op, w1, ca, cb, t⟩).toArray, .bool ok]) := fun ok e => by rw [e]; exact hok
  cases ok0 with
  | false =>
    refine ja F4 [] ?_ ?_ ?_; kernel_rfl
    · exact fun w s => s.bare
    refine aT 0 rfl (ev_qe rfl) rfl rfl ?_ ?_ ?_ ?_; kernel_rfl; kernel_rfl; kernel_rfl
    refine aT 1 rfl (ev_qe rfl) rfl rfl ?_ ?_ ?_ ?_; kernel_rfl; kernel_rfl; kernel_rfl
    refine aT 2 rfl (ev_indexAddr (i := 1) rfl rfl rfl (by show _ < 5; decide)) rfl rfl ?_ ?_ ?_ ?_; kernel_rfl; kernel_rfl; kernel_rfl
    refine aT 3 rfl (ev_load rfl rfl (Rdb.ofF c1')) rfl rfl ?_ ?_ ?_ ?_; kernel_rfl; kernel_rfl; kernel_rfl
    refine aT 4 rfl (ev_qe rfl) rfl rfl ?_ ?_ ?_ ?_; kernel_rfl; kernel_rfl; kernel_rfl
    refine aT 5 rfl (ev_qe rfl) rfl rfl ?_ ?_ ?_ ?_; kernel_rfl; kernel_rfl; kernel_rfl
    refine aT 6 rfl (ev_qe rfl) rfl rfl ?_ ?_ ?_ ?_; kernel_rfl; kernel_rfl; kernel_rfl
    refine aT 7 rfl (ev_bytes_string rfl hvt'.rds rfl rfl rfl) rfl rfl ?_ ?_ ?_ ?_; kernel_rfl; kernel_rfl; kernel_rfl
    refine aT 8 rfl (ev_build (t := coC ⟨0, 0, op, w1, ca, cb, t⟩) rfl rfl rfl (by repeat (first | exact FillF.nil | refine FillF.cons (by constructor) rfl rfl (by repeat constructor) ?_))) rfl rfl ?_ ?_ ?_ ?_; kernel_rfl; kernel_rfl; kernel_rfl
    refine aT 9 rfl (ev_qe rfl) rfl rfl ?_ ?_ ?_ ?_; kernel_rfl; kernel_rfl; kernel_rfl
    refine aT 10 rfl (ev_qe rfl) rfl rfl ?_ ?_ ?_ ?_; kernel_rfl; kernel_rfl; kernel_rfl
    refine aX 11 rfl rfl rfl ?_ ?_ ?_ ?_; kernel_rfl; kernel_rfl; kernel_rfl
    refine aT 12 rfl (ev_qe rfl) rfl rfl ?_ ?_ ?_ ?_; kernel_rfl; kernel_rfl; kernel_rfl
    refine aT 13 rfl (ev_qe rfl) rfl rfl ?_ ?_ ?_ ?_; kernel_rfl; kernel_rfl; kernel_rfl
    refine aX 14 rfl rfl rfl ?_ ?_ ?_ ?_; kernel_rfl; kernel_rfl; kernel_rfl
    refine aT 15 rfl (ev_qe rfl) rfl rfl ?_ ?_ ?_ ?_; kernel_rfl; kernel_rfl; kernel_rfl
    refine aT 16 rfl (ev_qe rfl) rfl rfl ?_ ?_ ?_ ?_; kernel_rfl; kernel_rfl; kernel_rfl
    refine aX 17 rfl rfl rfl ?_ ?_ ?_ ?_; kernel_rfl; kernel_rfl; kernel_rfl
    refine aT 18 rfl (ev_qe rfl) rfl rfl ?_ ?_ ?_ ?_; kernel_rfl; kernel_rfl; kernel_rfl
    refine aT 19 rfl (ev_qe rfl) rfl rfl ?_ ?_ ?_ ?_; kernel_rfl; kernel_rfl; kernel_rfl
    refine aX 20 rfl rfl rfl ?_ ?_ ?_ ?_; kernel_rfl; kernel_rfl; kernel_rfl
    refine aX 21 rfl rfl rfl ?_ ?_ ?_ ?_; kernel_rfl; kernel_rfl; kernel_rfl
    refine aB (i := 22) (by kernel_rfl) (aXB rfl rfl rfl ?_)
    refine aB (i := 23) (by kernel_rfl) (aXB rfl rfl rfl ?_)
    refine aT 24 rfl (ev_qe rfl) rfl rfl ?_ ?_ ?_ ?_; kernel_rfl; kernel_rfl; kernel_rfl
    refine aB (i := 25) (by kernel_rfl) (aN rfl (ev_store (vs := coC ⟨0, 0, op, w1, ca, cb, t⟩) rfl rfl .agg rfl rfl (lay_all (zs := coC zCo) rfl) (by unfold coC; (repeat (first | exact ones_nil | refine ones_cons rfl ?_))) .here) rfl (fun _ _ _ _ hq w s => by obtain ⟨e, _⟩ := hq; subst e; exact s.bare) ?_)
    rintro _ _ _ _ ⟨rfl, _, rfl⟩
    refine aT 26 rfl (ev_qe rfl) rfl rfl ?_ ?_ ?_ ?_; kernel_rfl; kernel_rfl; kernel_rfl
    refine aD (by kernel_rfl) ?_
    repeat (first|refine zJ rfl rfl ?_|refine jr rfl ?_|refine jn ?_|refine zM rfl rfl ?_|(refine zC rfl rfl ?_ rfl ?_;omega)|(refine zD rfl rfl ?_ rfl ?_;omega)|(refine zP rfl ?_ rfl ?_;omega)|refine zG rfl rfl rfl rfl ?_|(refine jdq rfl rfl ?_ ?_ ?_;kernel_rfl;kernel_rfl)|refine zB rfl rfl rfl (by repeat constructor) rfl ?_|refine zH .here rfl rfl rfl rfl ?_|refine zH (.there .here) rfl rfl rfl rfl ?_|refine zH (.there (.there .here)) rfl rfl rfl rfl ?_)
    exact J_retv (vs := [.agg (coC ⟨0, 0, op, w1, ca, cb, t⟩).toArray, .bool false]) rfl (.agg rfl rfl (Rdb.ofB (n := 0) .here rfl) rfl (.tmp rfl .nil)) [] (fun w s => s.drop) hle ⟨rfl, fin _ rfl⟩
  | true =>
    cases ok2 with
    | false =>
      refine ja F4 [] ?_ ?_ ?_; kernel_rfl
      · exact fun w s => s.bare
      refine aT 0 rfl (ev_qe rfl) rfl rfl ?_ ?_ ?_ ?_; kernel_rfl; kernel_rfl; kernel_rfl
      refine aT 1 rfl (ev_qe rfl) rfl rfl ?_ ?_ ?_ ?_; kernel_rfl; kernel_rfl; kernel_rfl
      refine aT 2 rfl (ev_indexAddr (i := 1) rfl rfl rfl (by show _ < 5; decide)) rfl rfl ?_ ?_ ?_ ?_; kernel_rfl; kernel_rfl; kernel_rfl
      refine aT 3 rfl (ev_load rfl rfl (Rdb.ofF c1')) rfl rfl ?_ ?_ ?_ ?_; kernel_rfl; kernel_rfl; kernel_rfl
      refine aT 4 rfl (ev_qe rfl) rfl rfl ?_ ?_ ?_ ?_; kernel_rfl; kernel_rfl; kernel_rfl
      refine aT 5 rfl (ev_qe rfl) rfl rfl ?_ ?_ ?_ ?_; kernel_rfl; kernel_rfl; kernel_rfl
      refine aT 6 rfl (ev_qe rfl) rfl rfl ?_ ?_ ?_ ?_; kernel_rfl; kernel_rfl; kernel_rfl
      refine aT 7 rfl (ev_bytes_string rfl hvt'.rds rfl rfl rfl) rfl rfl ?_ ?_ ?_ ?_; kernel_rfl; kernel_rfl; kernel_rfl
      refine aT 8 rfl (ev_build (t := coC ⟨0, 0, op, w1, ca, cb, t⟩) rfl rfl rfl (by repeat (first | exact FillF.nil | refine FillF.cons (by constructor) rfl rfl (by repeat constructor) ?_))) rfl rfl ?_ ?_ ?_ ?_; kernel_rfl; kernel_rfl; kernel_rfl
      refine aT 9 rfl (ev_qe rfl) rfl rfl ?_ ?_ ?_ ?_; kernel_rfl; kernel_rfl; kernel_rfl
      refine aT 10 rfl (ev_qe rfl) rfl rfl ?_ ?_ ?_ ?_; kernel_rfl; kernel_rfl; kernel_rfl
      refine aT 11 rfl (ev_qe rfl) rfl rfl ?_ ?_ ?_ ?_; kernel_rfl; kernel_rfl; kernel_rfl
      refine aT 12 rfl (ev_qe rfl) rfl rfl ?_ ?_ ?_ ?_; kernel_rfl; kernel_rfl; kernel_rfl
      refine aT 13 rfl (ev_qe rfl) rfl rfl ?_ ?_ ?_ ?_; kernel_rfl; kernel_rfl; kernel_rfl
      refine aX 14 rfl rfl rfl ?_ ?_ ?_ ?_; kernel_rfl; kernel_rfl; kernel_rfl
      refine aT 15 rfl (ev_qe rfl) rfl rfl ?_ ?_ ?_ ?_; kernel_rfl; kernel_rfl; kernel_rfl
      refine aT 16 rfl (ev_qe rfl) rfl rfl ?_ ?_ ?_ ?_; kernel_rfl; kernel_rfl; kernel_rfl
      refine aX 17 rfl rfl rfl ?_ ?_ ?_ ?_; kernel_rfl; kernel_rfl; kernel_rfl
      refine aT 18 rfl (ev_qe rfl) rfl rfl ?_ ?_ ?_ ?_; kernel_rfl; kernel_rfl; kernel_rfl
      refine aT 19 rfl (ev_qe rfl) rfl rfl ?_ ?_ ?_ ?_; kernel_rfl; kernel_rfl; kernel_rfl
      refine aX 20 rfl rfl rfl ?_ ?_ ?_ ?_; kernel_rfl; kernel_rfl; kernel_rfl
      refine aX 21 rfl rfl rfl ?_ ?_ ?_ ?_; kernel_rfl; kernel_rfl; kernel_rfl
      refine aB (i := 22) (by kernel_rfl) (aXB rfl rfl rfl ?_)
      refine aB (i := 23) (by kernel_rfl) (aXB rfl rfl rfl ?_)
      refine aT 24 rfl (ev_qe rfl) rfl rfl ?_ ?_ ?_ ?_; kernel_rfl; kernel_rfl; kernel_rfl
      refine aB (i := 25) (by kernel_rfl) (aN rfl (ev_store (vs := coC ⟨0, 0, op, w1, ca, cb, t⟩) rfl rfl .agg rfl rfl (lay_all (zs := coC zCo) rfl) (by unfold coC; (repeat (first | exact ones_nil | refine ones_cons rfl ?_))) .here) rfl (fun _ _ _ _ hq w s => by obtain ⟨e, _⟩ := hq; subst e; exact s.bare) ?_)
      rintro _ _ _ _ ⟨rfl, _, rfl⟩
      refine aT 26 rfl (ev_qe rfl) rfl rfl ?_ ?_ ?_ ?_; kernel_rfl; kernel_rfl; kernel_rfl
      refine aD (by kernel_rfl) ?_
      repeat (first|refine zJ rfl rfl ?_|refine jr rfl ?_|refine jn ?_|refine zM rfl rfl ?_|(refine zC rfl rfl ?_ rfl ?_;omega)|(refine zD rfl rfl ?_ rfl ?_;omega)|(refine zP rfl ?_ rfl ?_;omega)|refine zG rfl rfl rfl rfl ?_|(refine jdq rfl rfl ?_ ?_ ?_;kernel_rfl;kernel_rfl)|refine zB rfl rfl rfl (by repeat constructor) rfl ?_|refine zH .here rfl rfl rfl rfl ?_|refine zH (.there .here) rfl rfl rfl rfl ?_|refine zH (.there (.there .here)) rfl rfl rfl rfl ?_)
      exact J_retv (vs := [.agg (coC ⟨0, 0, op, w1, ca, cb, t⟩).toArray, .bool false]) rfl (.agg rfl rfl (Rdb.ofB (n := 0) .here rfl) rfl (.tmp rfl .nil)) [] (fun w s => s.drop) hle ⟨rfl, fin _ rfl⟩
    | true =>
      cases ok3 with
      | false =>
        refine ja F4 [] ?_ ?_ ?_; kernel_rfl
        · exact fun w s => s.bare
        refine aT 0 rfl (ev_qe rfl) rfl rfl ?_ ?_ ?_ ?_; kernel_rfl; kernel_rfl; kernel_rfl
        refine aT 1 rfl (ev_qe rfl) rfl rfl ?_ ?_ ?_ ?_; kernel_rfl; kernel_rfl; kernel_rfl
        refine aT 2 rfl (ev_indexAddr (i := 1) rfl rfl rfl (by show _ < 5; decide)) rfl rfl ?_ ?_ ?_ ?_; kernel_rfl; kernel_rfl; kernel_rfl
        refine aT 3 rfl (ev_load rfl rfl (Rdb.ofF c1')) rfl rfl ?_ ?_ ?_ ?_; kernel_rfl; kernel_rfl; kernel_rfl
        refine aT 4 rfl (ev_qe rfl) rfl rfl ?_ ?_ ?_ ?_; kernel_rfl; kernel_rfl; kernel_rfl
        refine aT 5 rfl (ev_qe rfl) rfl rfl ?_ ?_ ?_ ?_; kernel_rfl; kernel_rfl; kernel_rfl
        refine aT 6 rfl (ev_qe rfl) rfl rfl ?_ ?_ ?_ ?_; kernel_rfl; kernel_rfl; kernel_rfl
        refine aT 7 rfl (ev_bytes_string rfl hvt'.rds rfl rfl rfl) rfl rfl ?_ ?_ ?_ ?_; kernel_rfl; kernel_rfl; kernel_rfl
        refine aT 8 rfl (ev_build (t := coC ⟨0, 0, op, w1, ca, cb, t⟩) rfl rfl rfl (by repeat (first | exact FillF.nil | refine FillF.cons (by constructor) rfl rfl (by repeat constructor) ?_))) rfl rfl ?_ ?_ ?_ ?_; kernel_rfl; kernel_rfl; kernel_rfl
        refine aT 9 rfl (ev_qe rfl) rfl rfl ?_ ?_ ?_ ?_; kernel_rfl; kernel_rfl; kernel_rfl
        refine aT 10 rfl (ev_qe rfl) rfl rfl ?_ ?_ ?_ ?_; kernel_rfl; kernel_rfl; kernel_rfl
        refine aT 11 rfl (ev_qe rfl) rfl rfl ?_ ?_ ?_ ?_; kernel_rfl; kernel_rfl; kernel_rfl
        refine aT 12 rfl (ev_qe rfl) rfl rfl ?_ ?_ ?_ ?_; kernel_rfl; kernel_rfl; kernel_rfl
        refine aT 13 rfl (ev_qe rfl) rfl rfl ?_ ?_ ?_ ?_; kernel_rfl; kernel_rfl; kernel_rfl
        refine aT 14 rfl (ev_qe rfl) rfl rfl ?_ ?_ ?_ ?_; kernel_rfl; kernel_rfl; kernel_rfl
        refine aT 15 rfl (ev_qe rfl) rfl rfl ?_ ?_ ?_ ?_; kernel_rfl; kernel_rfl; kernel_rfl
        refine aT 16 rfl (ev_qe rfl) rfl rfl ?_ ?_ ?_ ?_; kernel_rfl; kernel_rfl; kernel_rfl
        refine aX 17 rfl rfl rfl ?_ ?_ ?_ ?_; kernel_rfl; kernel_rfl; kernel_rfl
        refine aT 18 rfl (ev_qe rfl) rfl rfl ?_ ?_ ?_ ?_; kernel_rfl; kernel_rfl; kernel_rfl
        refine aT 19 rfl (ev_qe rfl) rfl rfl ?_ ?_ ?_ ?_; kernel_rfl; kernel_rfl; kernel_rfl
        refine aX 20 rfl rfl rfl ?_ ?_ ?_ ?_; kernel_rfl; kernel_rfl; kernel_rfl
        refine aX 21 rfl rfl rfl ?_ ?_ ?_ ?_; kernel_rfl; kernel_rfl; kernel_rfl
        refine aB (i := 22) (by kernel_rfl) (aXB rfl rfl rfl ?_)
        refine aB (i := 23) (by kernel_rfl) (aXB rfl rfl rfl ?_)
        refine aT 24 rfl (ev_qe rfl) rfl rfl ?_ ?_ ?_ ?_; kernel_rfl; kernel_rfl; kernel_rfl
        refine aB (i := 25) (by kernel_rfl) (aN rfl (ev_store (vs := coC ⟨0, 0, op, w1, ca, cb, t⟩) rfl rfl .agg rfl rfl (lay_all (zs := coC zCo) rfl) (by unfold coC; (repeat (first | exact ones_nil | refine ones_cons rfl ?_))) .here) rfl (fun _ _ _ _ hq w s => by obtain ⟨e, _⟩ := hq; subst e; exact s.bare) ?_)
        rintro _ _ _ _ ⟨rfl, _, rfl⟩
        refine aT 26 rfl (ev_qe rfl) rfl rfl ?_ ?_ ?_ ?_; kernel_rfl; kernel_rfl; kernel_rfl
        refine aD (by kernel_rfl) ?_
        repeat (first|refine zJ rfl rfl ?_|refine jr rfl ?_|refine jn ?_|refine zM rfl rfl ?_|(refine zC rfl rfl ?_ rfl ?_;omega)|(refine zD rfl rfl ?_ rfl ?_;omega)|(refine zP rfl ?_ rfl ?_;omega)|refine zG rfl rfl rfl rfl ?_|(refine jdq rfl rfl ?_ ?_ ?_;kernel_rfl;kernel_rfl)|refine zB rfl rfl rfl (by repeat constructor) rfl ?_|refine zH .here rfl rfl rfl rfl ?_|refine zH (.there .here) rfl rfl rfl rfl ?_|refine zH (.there (.there .here)) rfl rfl rfl rfl ?_)
        exact J_retv (vs := [.agg (coC ⟨0, 0, op, w1, ca, cb, t⟩).toArray, .bool false]) rfl (.agg rfl rfl (Rdb.ofB (n := 0) .here rfl) rfl (.tmp rfl .nil)) [] (fun w s => s.drop) hle ⟨rfl, fin _ rfl⟩
      | true =>
        cases ok4 with
        | false =>
          refine ja F4 [] ?_ ?_ ?_; kernel_rfl
          · exact fun w s => s.bare
          refine aT 0 rfl (ev_qe rfl) rfl rfl ?_ ?_ ?_ ?_; kernel_rfl; kernel_rfl; kernel_rfl
          refine aT 1 rfl (ev_qe rfl) rfl rfl ?_ ?_ ?_ ?_; kernel_rfl; kernel_rfl; kernel_rfl
          refine aT 2 rfl (ev_indexAddr (i := 1) rfl rfl rfl (by show _ < 5; decide)) rfl rfl ?_ ?_ ?_ ?_; kernel_rfl; kernel_rfl; kernel_rfl
          refine aT 3 rfl (ev_load rfl rfl (Rdb.ofF c1')) rfl rfl ?_ ?_ ?_ ?_; kernel_rfl; kernel_rfl; kernel_rfl
          refine aT 4 rfl (ev_qe rfl) rfl rfl ?_ ?_ ?_ ?_; kernel_rfl; kernel_rfl; kernel_rfl
          refine aT 5 rfl (ev_qe rfl) rfl rfl ?_ ?_ ?_ ?_; kernel_rfl; kernel_rfl; kernel_rfl
          refine aT 6 rfl (ev_qe rfl) rfl rfl ?_ ?_ ?_ ?_; kernel_rfl; kernel_rfl; kernel_rfl
          refine aT 7 rfl (ev_bytes_string rfl hvt'.rds rfl rfl rfl) rfl rfl ?_ ?_ ?_ ?_; kernel_rfl; kernel_rfl; kernel_rfl
          refine aT 8 rfl (ev_build (t := coC ⟨0, 0, op, w1, ca, cb, t⟩) rfl rfl rfl (by repeat (first | exact FillF.nil | refine FillF.cons (by constructor) rfl rfl (by repeat constructor) ?_))) rfl rfl ?_ ?_ ?_ ?_; kernel_rfl; kernel_rfl; kernel_rfl
          refine aT 9 rfl (ev_qe rfl) rfl rfl ?_ ?_ ?_ ?_; kernel_rfl; kernel_rfl; kernel_rfl
          refine aT 10 rfl (ev_qe rfl) rfl rfl ?_ ?_ ?_ ?_; kernel_rfl; kernel_rfl; kernel_rfl
          refine aT 11 rfl (ev_qe rfl) rfl rfl ?_ ?_ ?_ ?_; kernel_rfl; kernel_rfl; kernel_rfl
          refine aT 12 rfl (ev_qe rfl) rfl rfl ?_ ?_ ?_ ?_; kernel_rfl; kernel_rfl; kernel_rfl
          refine aT 13 rfl (ev_qe rfl) rfl rfl ?_ ?_ ?_ ?_; kernel_rfl; kernel_rfl; kernel_rfl
          refine aT 14 rfl (ev_qe rfl) rfl rfl ?_ ?_ ?_ ?_; kernel_rfl; kernel_rfl; kernel_rfl
          refine aT 15 rfl (ev_qe rfl) rfl rfl ?_ ?_ ?_ ?_; kernel_rfl; kernel_rfl; kernel_rfl
          refine aT 16 rfl (ev_qe rfl) rfl rfl ?_ ?_ ?_ ?_; kernel_rfl; kernel_rfl; kernel_rfl
          refine aT 17 rfl (ev_qe rfl) rfl rfl ?_ ?_ ?_ ?_; kernel_rfl; kernel_rfl; kernel_rfl
          refine aT 18 rfl (ev_qe rfl) rfl rfl ?_ ?_ ?_ ?_; kernel_rfl; kernel_rfl; kernel_rfl
          refine aT 19 rfl (ev_qe rfl) rfl rfl ?_ ?_ ?_ ?_; kernel_rfl; kernel_rfl; kernel_rfl
          refine aX 20 rfl rfl rfl ?_ ?_ ?_ ?_; kernel_rfl; kernel_rfl; kernel_rfl
          refine aX 21 rfl rfl rfl ?_ ?_ ?_ ?_; kernel_rfl; kernel_rfl; kernel_rfl
          refine aB (i := 22) (by kernel_rfl) (aXB rfl rfl rfl ?_)
          refine aB (i := 23) (by kernel_rfl) (aXB rfl rfl rfl ?_)
          refine aT 24 rfl (ev_qe rfl) rfl rfl ?_ ?_ ?_ ?_; kernel_rfl; kernel_rfl; kernel_rfl
          refine aB (i := 25) (by kernel_rfl) (aN rfl (ev_store (vs := coC ⟨0, 0, op, w1, ca, cb, t⟩) rfl rfl .agg rfl rfl (lay_all (zs := coC zCo) rfl) (by unfold coC; (repeat (first | exact ones_nil | refine ones_cons rfl ?_))) .here) rfl (fun _ _ _ _ hq w s => by obtain ⟨e, _⟩ := hq; subst e; exact s.bare) ?_)
          rintro _ _ _ _ ⟨rfl, _, rfl⟩
          refine aT 26 rfl (ev_qe rfl) rfl rfl ?_ ?_ ?_ ?_; kernel_rfl; kernel_rfl; kernel_rfl
          refine aD (by kernel_rfl) ?_
          repeat (first|refine zJ rfl rfl ?_|refine jr rfl ?_|refine jn ?_|refine zM rfl rfl ?_|(refine zC rfl rfl ?_ rfl ?_;omega)|(refine zD rfl rfl ?_ rfl ?_;omega)|(refine zP rfl ?_ rfl ?_;omega)|refine zG rfl rfl rfl rfl ?_|(refine jdq rfl rfl ?_ ?_ ?_;kernel_rfl;kernel_rfl)|refine zB rfl rfl rfl (by repeat constructor) rfl ?_|refine zH .here rfl rfl rfl rfl ?_|refine zH (.there .here) rfl rfl rfl rfl ?_|refine zH (.there (.there .here)) rfl rfl rfl rfl ?_)
          exact J_retv (vs := [.agg (coC ⟨0, 0, op, w1, ca, cb, t⟩).toArray, .bool false]) rfl (.agg rfl rfl (Rdb.ofB (n := 0) .here rfl) rfl (.tmp rfl .nil)) [] (fun w s => s.drop) hle ⟨rfl, fin _ rfl⟩
        | true =>
          refine ja F4 [] ?_ ?_ ?_; kernel_rfl
          · exact fun w s => s.bare
          refine aT 0 rfl (ev_qe rfl) rfl rfl ?_ ?_ ?_ ?_; kernel_rfl; kernel_rfl; kernel_rfl
          refine aT 1 rfl (ev_qe rfl) rfl rfl ?_ ?_ ?_ ?_; kernel_rfl; kernel_rfl; kernel_rfl
          refine aT 2 rfl (ev_indexAddr (i := 1) rfl rfl rfl (by show _ < 5; decide)) rfl rfl ?_ ?_ ?_ ?_; kernel_rfl; kernel_rfl; kernel_rfl
          refine aT 3 rfl (ev_load rfl rfl (Rdb.ofF c1')) rfl rfl ?_ ?_ ?_ ?_; kernel_rfl; kernel_rfl; kernel_rfl
          refine aT 4 rfl (ev_qe rfl) rfl rfl ?_ ?_ ?_ ?_; kernel_rfl; kernel_rfl; kernel_rfl
          refine aT 5 rfl (ev_qe rfl) rfl rfl ?_ ?_ ?_ ?_; kernel_rfl; kernel_rfl; kernel_rfl
          refine aT 6 rfl (ev_qe rfl) rfl rfl ?_ ?_ ?_ ?_; kernel_rfl; kernel_rfl; kernel_rfl
          refine aT 7 rfl (ev_bytes_string rfl hvt'.rds rfl rfl rfl) rfl rfl ?_ ?_ ?_ ?_; kernel_rfl; kernel_rfl; kernel_rfl
          refine aT 8 rfl (ev_build (t := coC ⟨0, 0, op, w1, ca, cb, t⟩) rfl rfl rfl (by repeat (first | exact FillF.nil | refine FillF.cons (by constructor) rfl rfl (by repeat constructor) ?_))) rfl rfl ?_ ?_ ?_ ?_; kernel_rfl; kernel_rfl; kernel_rfl
          refine aT 9 rfl (ev_qe rfl) rfl rfl ?_ ?_ ?_ ?_; kernel_rfl; kernel_rfl; kernel_rfl
          refine aT 10 rfl (ev_qe rfl) rfl rfl ?_ ?_ ?_ ?_; kernel_rfl; kernel_rfl; kernel_rfl
          refine aT 11 rfl (ev_qe rfl) rfl rfl ?_ ?_ ?_ ?_; kernel_rfl; kernel_rfl; kernel_rfl
          refine aT 12 rfl (ev_qe rfl) rfl rfl ?_ ?_ ?_ ?_; kernel_rfl; kernel_rfl; kernel_rfl
          refine aT 13 rfl (ev_qe rfl) rfl rfl ?_ ?_ ?_ ?_; kernel_rfl; kernel_rfl; kernel_rfl
          refine aT 14 rfl (ev_qe rfl) rfl rfl ?_ ?_ ?_ ?_; kernel_rfl; kernel_rfl; kernel_rfl
          refine aT 15 rfl (ev_qe rfl) rfl rfl ?_ ?_ ?_ ?_; kernel_rfl; kernel_rfl; kernel_rfl
          refine aT 16 rfl (ev_qe rfl) rfl rfl ?_ ?_ ?_ ?_; kernel_rfl; kernel_rfl; kernel_rfl
          refine aT 17 rfl (ev_qe rfl) rfl rfl ?_ ?_ ?_ ?_; kernel_rfl; kernel_rfl; kernel_rfl
          refine aT 18 rfl (ev_qe rfl) rfl rfl ?_ ?_ ?_ ?_; kernel_rfl; kernel_rfl; kernel_rfl
          refine aT 19 rfl (ev_qe rfl) rfl rfl ?_ ?_ ?_ ?_; kernel_rfl; kernel_rfl; kernel_rfl
          refine aT 20 rfl (ev_qe rfl) rfl rfl ?_ ?_ ?_ ?_; kernel_rfl; kernel_rfl; kernel_rfl
          refine aT 21 rfl (ev_indexAddr (i := 1) rfl rfl rfl (by show _ < 5; decide)) rfl rfl ?_ ?_ ?_ ?_; kernel_rfl; kernel_rfl; kernel_rfl
          refine aB (i := 22) (by kernel_rfl) (aV rfl (ev_load rfl rfl (Rdb.ofF c1')) rfl rfl ?_)
          refine aB (i := 23) (by kernel_rfl) (aP rfl (dletter_spec w1 F4 n1) Tryz.call59 rfl rfl rfl (fun _ s => s.bare) ?_)
          refine aT 24 rfl (ev_qe rfl) rfl rfl ?_ ?_ ?_ ?_; kernel_rfl; kernel_rfl; kernel_rfl
          refine aB (i := 25) (by kernel_rfl) (aN rfl (ev_store (vs := coC ⟨0, 0, op, w1, ca, cb, t⟩) rfl rfl .agg rfl rfl (lay_all (zs := coC zCo) rfl) (by unfold coC; (repeat (first | exact ones_nil | refine ones_cons rfl ?_))) .here) rfl (fun _ _ _ _ hq w s => by obtain ⟨e, _⟩ := hq; subst e; exact s.bare) ?_)
          rintro _ _ _ _ ⟨rfl, _, rfl⟩
          refine aT 26 rfl (ev_qe rfl) rfl rfl ?_ ?_ ?_ ?_; kernel_rfl; kernel_rfl; kernel_rfl
          refine aD (by kernel_rfl) ?_
          repeat (first|refine zJ rfl rfl ?_|refine jr rfl ?_|refine jn ?_|refine zM rfl rfl ?_|(refine zC rfl rfl ?_ rfl ?_;omega)|(refine zD rfl rfl ?_ rfl ?_;omega)|(refine zP rfl ?_ rfl ?_;omega)|refine zG rfl rfl rfl rfl ?_|(refine jdq rfl rfl ?_ ?_ ?_;kernel_rfl;kernel_rfl)|refine zB rfl rfl rfl (by repeat constructor) rfl ?_|refine zH .here rfl rfl rfl rfl ?_|refine zH (.there .here) rfl rfl rfl rfl ?_|refine zH (.there (.there .here)) rfl rfl rfl rfl ?_)
          exact J_retv (vs := [.agg (coC ⟨0, 0, op, w1, ca, cb, t⟩).toArray, .bool (letterB w1)]) rfl (.agg rfl rfl (Rdb.ofB (n := 0) .here rfl) rfl (.tmp rfl .nil)) [] (fun w s => s.drop) hle ⟨rfl, fin _ rfl⟩
end Go.Proofs.YtekdmpbkcjjllaaGreatDoor
