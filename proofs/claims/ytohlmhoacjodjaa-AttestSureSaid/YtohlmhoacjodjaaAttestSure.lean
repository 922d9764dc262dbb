/-
  Nothing else is proved (AttestSure). No condition.
-/
import Derived.Test.YtohlmhoacjodjaaAk
import Derived.Test.YtohlmhoacjodjaaAn
import Derived.Test.YtohlmhoacjodjaaAm
import Derived.Test.YtohlmhoacjodjaaLb
namespace Go.Proofs.Ytohlmhoacjodjaa
open Go.RowKit
set_option maxRecDepth 100000
theorem fewB_true {l : List (List UInt8)} (h : fewB l = true) : (∀ x ∈ l, x.length ≤ 100) ∧ l.length ≤ 80 := of_decide_eq_true h
theorem aXB {C : Ctx} {ops : Array Oper} {fuel : Nat} {listed : Array Bool} {k : List KItem} {l : Env} {F Fs : PH} {H Hs : List Asrt} {d i : Nat} {p : Op} {T : TypeId} {pos : String} {af : Array Edge} {g : Option (Nat × Bool)} (ho : ops[i]? = some ⟨some d, p, T, pos, af, g⟩) (hr : runs ops l ⟨some d, p, T, pos, af, g⟩ = some false) (hN : Nat.blt d C.N = true)
    (h : JA C (Sat Fs Hs) ops fuel (listed.setIfInBounds i true) k ((d, undef) :: l) F H) : JA1 C (Sat Fs Hs) ops fuel listed i k l F H := by
  unfold JA at h
  unfold JA1
  intro hS a w ha hm hs
  have hd : d < C.N := Nat.le_of_ble_eq_true hN
  unfold wpOp
  rw [ho]
  dsimp only
  rw [if_neg (by rw [runs_wanted hr ha]; simp)]
  exact ⟨hS w hs, h hS _ w (ha.put hd undef) hm hs⟩
theorem ev_beql {P : Program} {l : Env} {F : PH} {H : List Asrt} {d : Option Nat} {T T' U : TypeId} {pos : String} {af : Array Edge} {g : Option (Nat × Bool)} {x y : Operand} {a b : Bool} {r : Bool} (hx : opv l x = some (.bool a)) (hy : opv l y = some (.bool b)) (hu : P.underlying T = some .bool) (hr : (a == b) = r) : Ev P ⟨d, .binOp .eql T x y T', U, pos, af, g⟩ l F H (.bool r) := by
  subst hr
  exact ev_bool_eql hx hy hu
theorem dnuB_inj {k : Int} {n n' : Nat} (h : dnuB k n = dnuB k n') (h1 : n < 2 ^ 64) (h2 : n' < 2 ^ 64) : n = n' := by
  unfold dnuB at h
  have h3 := List.append_cancel_left (List.cons.inj h).2
  have a1 := num8 h1 []
  have a2 := num8 h2 []
  rw [h3, a2] at a1
  exact (Prod.ext_iff.1 a1).1.symm
theorem book_inj (b m : Nat) (tg : Value) (T : List Hk) (hT : T.length ≤ 90000) : Inj (bookC b m tg) T := by
  intro k x y d hx hy
  have x1 : bkD T (k, x) = d := (Prod.ext_iff.1 hx).1
  have x2 : (placeP T (k, x)).2 = T := (Prod.ext_iff.1 hx).2
  have y1 : bkD T (k, y) = d := (Prod.ext_iff.1 hy).1
  have y2 : (placeP T (k, y)).2 = T := (Prod.ext_iff.1 hy).2
  have px := placeP_pos T (k, x)
  have py := placeP_pos T (k, y)
  rw [x2] at px
  rw [y2] at py
  have lx := posN_le _ _ px
  have ly := posN_le _ _ py
  rw [← y1] at x1
  have e := dnuB_inj x1 (by omega) (by omega)
  rw [← e] at py
  exact (Prod.ext_iff.1 (posN_inj _ _ px py)).2
theorem row_dg {F : PH} {v : Value} {xs : List (List UInt8)} (h : DgV F v xs) (h32 : D32 xs) : RowV tyDg F v xs := by
  refine ⟨xs.map u8s, ?_, ?_⟩
  · have h2 : SliceV F 32 v (xs.map u8s).length (xs.map u8s).flatten := by rw [List.length_map]; exact h
    rwa [List.length_map] at h2
  · clear h
    induction xs with
    | nil => exact .nil
    | cons d xs ih => exact .cons ⟨rfl, h32 d List.mem_cons_self⟩ (ih fun e he => h32 e (List.mem_cons_of_mem _ he))
theorem dgC_set {P : List (List UInt8)} {j : Nat} {d o : List UInt8} (h : P[j]? = some d) (h32 : D32 P) (ho : o.length = 32) : Lay (j * 32) (u8s o) (dgC P) (dgC (P.set j o)) ∧ D32 (P.set j o) := by
  obtain ⟨hj, hd⟩ := List.getElem?_eq_some_iff.1 h
  have e1 : P = P.take j ++ d :: P.drop (j + 1) := by rw [← hd, List.getElem_cons_drop, List.take_append_drop]
  have e2 : P.set j o = P.take j ++ o :: P.drop (j + 1) := by rw [List.set_eq_take_append_cons_drop, if_pos hj]
  have hl : (dgC (P.take j)).length = j * 32 := by
    rw [dgC_len fun x hx => h32 x (List.mem_of_mem_take hx), List.length_take, Nat.min_eq_left (by omega)]
  have hdl : d.length = 32 := h32 d (List.mem_of_getElem? h)
  refine ⟨?_, fun x hx => ?_⟩
  · have a1 : dgC P = dgC (P.take j) ++ (u8s d ++ dgC (P.drop (j + 1))) := by
      conv => lhs; rw [e1]
      rw [dgC_app]
      rfl
    have a2 : dgC (P.set j o) = dgC (P.take j) ++ (u8s o ++ dgC (P.drop (j + 1))) := by
      rw [e2, dgC_app]
      rfl
    rw [a1, a2]
    have := layP (dgC (P.take j)) (lay_mid (vs := u8s o) (zs := u8s d) (dgC (P.drop (j + 1))) (by rw [u8s_len, u8s_len, ho, hdl]))
    rw [hl] at this
    exact this
  · rw [e2] at hx
    rcases List.mem_append.1 hx with hx | hx
    · exact h32 x (List.mem_of_mem_take hx)
    · rcases List.mem_cons.1 hx with rfl | hx
      · exact ho
      · exact h32 x (List.mem_of_mem_drop hx)
set_option maxHeartbeats 32000000 in
theorem AttestSure_walk (l : List (List UInt8)) (i : Int) (leaf : List UInt8) (path : List (List UInt8)) (from_ : Int) (a al ap : Option Addr) (c kl kp : Nat) (F : PH) (h : RowV tyByt F (.slice a l.length c) l) (hm : l.length ≤ maxLen) (hlv : Byt F (.slice al leaf.length kl) leaf) (hpv : RowV tyDg F (.slice ap path.length kp) path) : Spec Try.prog 5 [.slice a l.length c, .int .i64 i, .slice al leaf.length kl, .slice ap path.length kp, .int .i64 from_] F [] fun u _ H' => u = .bool true ∧ H' = [] := by
  refine Spec.of5 Try.func5 rfl rfl fun X w0 => ?_
  repeat (first|refine zJ rfl rfl ?_|refine jr rfl ?_|refine jn ?_|refine zM rfl rfl ?_|(refine zC rfl rfl ?_ rfl ?_;omega)|(refine zD rfl rfl ?_ rfl ?_;omega)|(refine zP rfl ?_ rfl ?_;omega)|refine zG rfl rfl rfl rfl ?_|(refine jdq rfl rfl ?_ ?_ ?_;kernel_rfl;kernel_rfl)|refine zB rfl rfl rfl (by repeat constructor) rfl ?_|refine zH .here rfl rfl rfl rfl ?_|refine zH (.there .here) rfl rfl rfl rfl ?_|refine zH (.there (.there .here)) rfl rfl rfl rfl ?_)
  refine oC (Hc := []) (Hr := X) (fixed41 F) Try.call8 rfl rfl (fun _ s => s) ?_
  rintro _ F0 _ hF0 ⟨rfl, rfl⟩
  replace h := h.mono hF0
  replace hlv := SliceV.mono hlv hF0
  replace hpv := hpv.mono hF0
  repeat (first|refine zJ rfl rfl ?_|refine jr rfl ?_|refine jn ?_|refine zM rfl rfl ?_|(refine zC rfl rfl ?_ rfl ?_;omega)|(refine zD rfl rfl ?_ rfl ?_;omega)|(refine zP rfl ?_ rfl ?_;omega)|refine zG rfl rfl rfl rfl ?_|(refine jdq rfl rfl ?_ ?_ ?_;kernel_rfl;kernel_rfl)|refine zB rfl rfl rfl (by repeat constructor) rfl ?_|refine zH .here rfl rfl rfl rfl ?_|refine zH (.there .here) rfl rfl rfl rfl ?_|refine zH (.there (.there .here)) rfl rfl rfl rfl ?_)
  refine oP (few_spec l _ F0 h hm) Try.call9 rfl rfl ?_
  cases hf : fewB l with
  | false =>
    repeat (first|refine zJ rfl rfl ?_|refine jr rfl ?_|refine jn ?_|refine zM rfl rfl ?_|(refine zC rfl rfl ?_ rfl ?_;omega)|(refine zD rfl rfl ?_ rfl ?_;omega)|(refine zP rfl ?_ rfl ?_;omega)|refine zG rfl rfl rfl rfl ?_|(refine jdq rfl rfl ?_ ?_ ?_;kernel_rfl;kernel_rfl)|refine zB rfl rfl rfl (by repeat constructor) rfl ?_|refine zH .here rfl rfl rfl rfl ?_|refine zH (.there .here) rfl rfl rfl rfl ?_|refine zH (.there (.there .here)) rfl rfl rfl rfl ?_)
    exact J_retv rfl (.tmp rfl .nil) [] (fun w s => s) hF0 ⟨rfl, rfl⟩
  | true =>
  obtain ⟨h100, h80⟩ := fewB_true hf
  have hs : Small l := fun x hx => by have := h100 x hx; omega
  by_cases g1 : 100 < leaf.length
  · repeat (first|refine zJ rfl rfl ?_|refine jr rfl ?_|refine jn ?_|refine zM rfl rfl ?_|(refine zC rfl rfl ?_ rfl ?_;omega)|(refine zD rfl rfl ?_ rfl ?_;omega)|(refine zP rfl ?_ rfl ?_;omega)|refine zG rfl rfl rfl rfl ?_|(refine jdq rfl rfl ?_ ?_ ?_;kernel_rfl;kernel_rfl)|refine zB rfl rfl rfl (by repeat constructor) rfl ?_|refine zH .here rfl rfl rfl rfl ?_|refine zH (.there .here) rfl rfl rfl rfl ?_|refine zH (.there (.there .here)) rfl rfl rfl rfl ?_)
    exact J_retv rfl (.tmp rfl .nil) [] (fun w s => s) hF0 ⟨rfl, rfl⟩
  by_cases g2 : 60 < path.length
  · repeat (first|refine zJ rfl rfl ?_|refine jr rfl ?_|refine jn ?_|refine zM rfl rfl ?_|(refine zC rfl rfl ?_ rfl ?_;omega)|(refine zD rfl rfl ?_ rfl ?_;omega)|(refine zP rfl ?_ rfl ?_;omega)|refine zG rfl rfl rfl rfl ?_|(refine jdq rfl rfl ?_ ?_ ?_;kernel_rfl;kernel_rfl)|refine zB rfl rfl rfl (by repeat constructor) rfl ?_|refine zH .here rfl rfl rfl rfl ?_|refine zH (.there .here) rfl rfl rfl rfl ?_|refine zH (.there (.there .here)) rfl rfl rfl rfl ?_)
    exact J_retv rfl (.tmp rfl .nil) [] (fun w s => s) hF0 ⟨rfl, rfl⟩
  by_cases g3 : i < 0
  · repeat (first|refine zJ rfl rfl ?_|refine jr rfl ?_|refine jn ?_|refine zM rfl rfl ?_|(refine zC rfl rfl ?_ rfl ?_;omega)|(refine zD rfl rfl ?_ rfl ?_;omega)|(refine zP rfl ?_ rfl ?_;omega)|refine zG rfl rfl rfl rfl ?_|(refine jdq rfl rfl ?_ ?_ ?_;kernel_rfl;kernel_rfl)|refine zB rfl rfl rfl (by repeat constructor) rfl ?_|refine zH .here rfl rfl rfl rfl ?_|refine zH (.there .here) rfl rfl rfl rfl ?_|refine zH (.there (.there .here)) rfl rfl rfl rfl ?_)
    exact J_retv rfl (.tmp rfl .nil) [] (fun w s => s) hF0 ⟨rfl, rfl⟩
  by_cases g4 : (l.length : Int) ≤ i
  · repeat (first|refine zJ rfl rfl ?_|refine jr rfl ?_|refine jn ?_|refine zM rfl rfl ?_|(refine zC rfl rfl ?_ rfl ?_;omega)|(refine zD rfl rfl ?_ rfl ?_;omega)|(refine zP rfl ?_ rfl ?_;omega)|refine zG rfl rfl rfl rfl ?_|(refine jdq rfl rfl ?_ ?_ ?_;kernel_rfl;kernel_rfl)|refine zB rfl rfl rfl (by repeat constructor) rfl ?_|refine zH .here rfl rfl rfl rfl ?_|refine zH (.there .here) rfl rfl rfl rfl ?_|refine zH (.there (.there .here)) rfl rfl rfl rfl ?_)
    exact J_retv rfl (.tmp rfl .nil) [] (fun w s => s) hF0 ⟨rfl, rfl⟩
  obtain ⟨k, rfl⟩ : ∃ k : Nat, i = k := ⟨i.toNat, by omega⟩
  have hk2 : k < l.length := by omega
  repeat (first|refine zJ rfl rfl ?_|refine jr rfl ?_|refine jn ?_|refine zM rfl rfl ?_|(refine zC rfl rfl ?_ rfl ?_;omega)|(refine zD rfl rfl ?_ rfl ?_;omega)|(refine zP rfl ?_ rfl ?_;omega)|refine zG rfl rfl rfl rfl ?_|(refine jdq rfl rfl ?_ ?_ ?_;kernel_rfl;kernel_rfl)|refine zB rfl rfl rfl (by repeat constructor) rfl ?_|refine zH .here rfl rfl rfl rfl ?_|refine zH (.there .here) rfl rfl rfl rfl ?_|refine zH (.there (.there .here)) rfl rfl rfl rfl ?_)
  refine oC (Hc := []) (Hr := X) (bnew_spec F0) Try.call18 rfl rfl (fun _ s => s) ?_
  rintro _ _ _ _ ⟨rfl, b, m, tg, rfl, rfl⟩
  repeat (first|refine zJ rfl rfl ?_|refine jr rfl ?_|refine jn ?_|refine zM rfl rfl ?_|(refine zC rfl rfl ?_ rfl ?_;omega)|(refine zD rfl rfl ?_ rfl ?_;omega)|(refine zP rfl ?_ rfl ?_;omega)|refine zG rfl rfl rfl rfl ?_|(refine jdq rfl rfl ?_ ?_ ?_;kernel_rfl;kernel_rfl)|refine zB rfl rfl rfl (by repeat constructor) rfl ?_|refine zH .here rfl rfl rfl rfl ?_|refine zH (.there .here) rfl rfl rfl rfl ?_|refine zH (.there (.there .here)) rfl rfl rfl rfl ?_)
  refine oS (ev_makeInterface rfl (by kernel_rfl)) rfl ?_
  repeat (first|refine zJ rfl rfl ?_|refine jr rfl ?_|refine jn ?_|refine zM rfl rfl ?_|(refine zC rfl rfl ?_ rfl ?_;omega)|(refine zD rfl rfl ?_ rfl ?_;omega)|(refine zP rfl ?_ rfl ?_;omega)|refine zG rfl rfl rfl rfl ?_|(refine jdq rfl rfl ?_ ?_ ?_;kernel_rfl;kernel_rfl)|refine zB rfl rfl rfl (by repeat constructor) rfl ?_|refine zH .here rfl rfl rfl rfl ?_|refine zH (.there .here) rfl rfl rfl rfl ?_|refine zH (.there (.there .here)) rfl rfl rfl rfl ?_)
  refine oC (Hc := bookA b m tg []) (Hr := X) (root_spec (bookC b m tg) _ l [] _ F0 (Nat.le_refl _) h hs (by show 0 + 2 * l.length ≤ 80000; omega)) Try.call11 rfl rfl (fun _ s => s) ?_
  rintro _ F1 _ hF1 ⟨rfl, rfl⟩
  have hS := root_again (bookL b m tg) _ l ([] : List Hk) (rootP (bookC b m tg) [] l).2 (Nat.le_refl _) ((bookL b m tg).refl _)
  have hroom := rootP_room (bookC b m tg) _ [] l (Nat.le_refl _)
  have hrm : (bookC b m tg).room (rootP (bookC b m tg) [] l).2 ≤ 200 := by
    have h0 : (bookC b m tg).room [] = 0 := rfl
    rw [h0] at hroom
    split at hroom <;> omega
  have hlen := rootP_len (bookC b m tg) [] l
  have hk : Knows (bookC b m tg) (rootP (bookC b m tg) [] l).2 l := by unfold Knows; rw [hS]
  generalize (rootP (bookC b m tg) [] l).2 = T at *
  generalize (rootP (bookC b m tg) [] l).1 = r at *
  have hr8 : (u8s r).length = 32 := by rw [u8s_len, hlen]
  refine oE (ev_alloc (E := 28) (cs := u8s zd32) (by kernel_rfl)) rfl ?_
  rintro _ _ _ _ ⟨rfl, b12, rfl, rfl⟩
  refine oN (ev_store (b := b12) (vs := u8s r) rfl rfl .agg rfl hr8 (lay_all (zs := u8s zd32) (by rw [hr8]; rfl)) (u8s_ones _) .here) rfl ?_
  rintro _ _ _ _ ⟨rfl, _, rfl⟩
  have hspec : ∀ (j : Nat) (F : PH), j < l.length → RowV tyByt F (.slice a l.length c) l → Spec Try.prog 13 [(bookC b m tg).v, .slice a l.length c, .int .i64 j] F ((bookC b m tg).A T) fun u F' H' => DgV F' u (downP (bookC b m tg) T l j).1.reverse ∧ H' = (bookC b m tg).A T := fun j F hj hrow => by
    have e1 : (pathP (bookC b m tg) T l j).2 = T := down_knows (bookL b m tg) _ l T j (Nat.le_refl _) hk
    have sp1 := path_spec (bookC b m tg) l T (.slice a l.length c) j F hrow hs (by omega) hj
    rw [e1] at sp1
    exact sp1
  have ho32 : ∀ j, D32 (downP (bookC b m tg) T l j).1.reverse := fun j d hd => downP_32 (bookC b m tg) _ T l j (Nat.le_refl _) d (List.mem_reverse.1 hd)
  have hol : ∀ j, (downP (bookC b m tg) T l j).1.reverse.length ≤ l.length := fun j => by
    rw [List.length_reverse]
    exact (downP_n (bookC b m tg) _ T l j (Nat.le_refl _)).1
  replace h := h.mono hF1
  replace hlv := SliceV.mono hlv hF1
  replace hpv := hpv.mono hF1
  repeat (first|refine zJ rfl rfl ?_|refine jr rfl ?_|refine jn ?_|refine zM rfl rfl ?_|(refine zC rfl rfl ?_ rfl ?_;omega)|(refine zD rfl rfl ?_ rfl ?_;omega)|(refine zP rfl ?_ rfl ?_;omega)|refine zG rfl rfl rfl rfl ?_|(refine jdq rfl rfl ?_ ?_ ?_;kernel_rfl;kernel_rfl)|refine zB rfl rfl rfl (by repeat constructor) rfl ?_|refine zH .here rfl rfl rfl rfl ?_|refine zH (.there .here) rfl rfl rfl rfl ?_|refine zH (.there (.there .here)) rfl rfl rfl rfl ?_)
  refine oS (ev_makeInterface rfl (by kernel_rfl)) rfl ?_
  repeat (first|refine zJ rfl rfl ?_|refine jr rfl ?_|refine jn ?_|refine zM rfl rfl ?_|(refine zC rfl rfl ?_ rfl ?_;omega)|(refine zD rfl rfl ?_ rfl ?_;omega)|(refine zP rfl ?_ rfl ?_;omega)|refine zG rfl rfl rfl rfl ?_|(refine jdq rfl rfl ?_ ?_ ?_;kernel_rfl;kernel_rfl)|refine zB rfl rfl rfl (by repeat constructor) rfl ?_|refine zH .here rfl rfl rfl rfl ?_|refine zH (.there .here) rfl rfl rfl rfl ?_|refine zH (.there (.there .here)) rfl rfl rfl rfl ?_)
  refine oC (Hc := (bookC b m tg).A T) (Hr := blk b12 28 (u8s r) :: X) (hspec k F1 hk2 h) Try.call13 rfl rfl (fun w t => Sat.front (A := [_]) (B := (bookC b m tg).A T) (C := X) t) ?_
  rintro ov F2 _ hF2 ⟨hov, rfl⟩
  refine oW (H' := blk b12 28 (u8s r) :: ((bookC b m tg).A T ++ X)) ?_ (fun w t => Sat.bring t)
  refine zM rfl rfl ?_
  refine jn ?_
  refine jc rfl rfl ?_
  have ho32k := ho32 k
  have holk := hol k
  have hcs : ∀ (P : List (List UInt8)), D32 P → P.length ≤ 80 → chkP (bookC b m tg) T r l.length k leaf P = decide (leaf = l.getD k [] ∧ P = (downP (bookC b m tg) T l k).1.reverse) := fun P h32 hP => by
    have hcr := climb_room (bookC b m tg) T l.length k leaf P
    have := chk_sure (bookL b m tg) (leaf := leaf) (path := P) hk2 hk (fun T' _ h => book_inj b m tg T' h) (by omega) h32
    rw [hS] at this
    exact this
  generalize hown : (downP (bookC b m tg) T l k).1.reverse = own0 at hov ho32k holk hcs
  have hg : l[k]? = some l[k] := List.getElem?_eq_getElem hk2
  have hgd : l.getD k [] = l[k] := by rw [List.getD_eq_getElem?_getD, hg]; rfl
  have hxl := h100 _ (List.getElem_mem hk2)
  rw [hgd] at hcs
  generalize l[k] = x at *
  replace h := h.mono hF2
  replace hlv := SliceV.mono hlv hF2
  replace hpv := hpv.mono hF2
  obtain ⟨_, ao, ko, rfl, hko, hov0⟩ := id hov
  refine J_join (ι := List (List UInt8) × Value × PH) [_, _] (fun p => F2.le p.2.2 ∧ RowV tyDg p.2.2 p.2.1 p.1 ∧ p.1.length ≤ 80) (fun p => [(0, .slice a l.length c), (1, .int .i64 k), (2, .slice al leaf.length kl), (3, p.2.1), (11, .pointer (some ⟨b, 0, none⟩)), (12, .pointer (some ⟨b12, 0, none⟩)), (13, Value.slice ao own0.length ko)]) (fun p => p.2.2) (fun _ => blk b12 28 (u8s r) :: ((bookC b m tg).A T ++ X)) ?_ ?_
  · by_cases p0 : path.length = 0
    rotate_left
    · repeat (first|refine zJ rfl rfl ?_|refine jr rfl ?_|refine jn ?_|refine zM rfl rfl ?_|(refine zC rfl rfl ?_ rfl ?_;omega)|(refine zD rfl rfl ?_ rfl ?_;omega)|(refine zP rfl ?_ rfl ?_;omega)|refine zG rfl rfl rfl rfl ?_|(refine jdq rfl rfl ?_ ?_ ?_;kernel_rfl;kernel_rfl)|refine zB rfl rfl rfl (by repeat constructor) rfl ?_|refine zH .here rfl rfl rfl rfl ?_|refine zH (.there .here) rfl rfl rfl rfl ?_|refine zH (.there (.there .here)) rfl rfl rfl rfl ?_)
      exact J_joined (path, .slice ap path.length kp, F2) ⟨PH.ler _, hpv, by dsimp only; omega⟩ ⟨⟨rfl, rfl, rfl, rfl, rfl, rfl, rfl, trivial⟩, fun w s => s⟩
    by_cases p1 : 0 ≤ from_
    rotate_left
    · repeat (first|refine zJ rfl rfl ?_|refine jr rfl ?_|refine jn ?_|refine zM rfl rfl ?_|(refine zC rfl rfl ?_ rfl ?_;omega)|(refine zD rfl rfl ?_ rfl ?_;omega)|(refine zP rfl ?_ rfl ?_;omega)|refine zG rfl rfl rfl rfl ?_|(refine jdq rfl rfl ?_ ?_ ?_;kernel_rfl;kernel_rfl)|refine zB rfl rfl rfl (by repeat constructor) rfl ?_|refine zH .here rfl rfl rfl rfl ?_|refine zH (.there .here) rfl rfl rfl rfl ?_|refine zH (.there (.there .here)) rfl rfl rfl rfl ?_)
      exact J_joined (path, .slice ap path.length kp, F2) ⟨PH.ler _, hpv, by dsimp only; omega⟩ ⟨⟨rfl, rfl, rfl, rfl, rfl, rfl, rfl, trivial⟩, fun w s => s⟩
    by_cases p2 : from_ < l.length
    rotate_left
    · repeat (first|refine zJ rfl rfl ?_|refine jr rfl ?_|refine jn ?_|refine zM rfl rfl ?_|(refine zC rfl rfl ?_ rfl ?_;omega)|(refine zD rfl rfl ?_ rfl ?_;omega)|(refine zP rfl ?_ rfl ?_;omega)|refine zG rfl rfl rfl rfl ?_|(refine jdq rfl rfl ?_ ?_ ?_;kernel_rfl;kernel_rfl)|refine zB rfl rfl rfl (by repeat constructor) rfl ?_|refine zH .here rfl rfl rfl rfl ?_|refine zH (.there .here) rfl rfl rfl rfl ?_|refine zH (.there (.there .here)) rfl rfl rfl rfl ?_)
      exact J_joined (path, .slice ap path.length kp, F2) ⟨PH.ler _, hpv, by dsimp only; omega⟩ ⟨⟨rfl, rfl, rfl, rfl, rfl, rfl, rfl, trivial⟩, fun w s => s⟩
    obtain ⟨q, rfl⟩ : ∃ q : Nat, from_ = q := ⟨from_.toNat, by omega⟩
    repeat (first|refine zJ rfl rfl ?_|refine jr rfl ?_|refine jn ?_|refine zM rfl rfl ?_|(refine zC rfl rfl ?_ rfl ?_;omega)|(refine zD rfl rfl ?_ rfl ?_;omega)|(refine zP rfl ?_ rfl ?_;omega)|refine zG rfl rfl rfl rfl ?_|(refine jdq rfl rfl ?_ ?_ ?_;kernel_rfl;kernel_rfl)|refine zB rfl rfl rfl (by repeat constructor) rfl ?_|refine zH .here rfl rfl rfl rfl ?_|refine zH (.there .here) rfl rfl rfl rfl ?_|refine zH (.there (.there .here)) rfl rfl rfl rfl ?_)
    refine oS (ev_makeInterface rfl (by kernel_rfl)) rfl ?_
    repeat (first|refine zJ rfl rfl ?_|refine jr rfl ?_|refine jn ?_|refine zM rfl rfl ?_|(refine zC rfl rfl ?_ rfl ?_;omega)|(refine zD rfl rfl ?_ rfl ?_;omega)|(refine zP rfl ?_ rfl ?_;omega)|refine zG rfl rfl rfl rfl ?_|(refine jdq rfl rfl ?_ ?_ ?_;kernel_rfl;kernel_rfl)|refine zB rfl rfl rfl (by repeat constructor) rfl ?_|refine zH .here rfl rfl rfl rfl ?_|refine zH (.there .here) rfl rfl rfl rfl ?_|refine zH (.there (.there .here)) rfl rfl rfl rfl ?_)
    refine oC (Hc := (bookC b m tg).A T) (Hr := blk b12 28 (u8s r) :: X) (hspec q F2 (by omega) h) Try.call13 rfl rfl (fun w t => Sat.front (A := [_]) (B := (bookC b m tg).A T) (C := X) t) ?_
    rintro pv F3 _ hF3 ⟨hpv3, rfl⟩
    repeat (first|refine zJ rfl rfl ?_|refine jr rfl ?_|refine jn ?_|refine zM rfl rfl ?_|(refine zC rfl rfl ?_ rfl ?_;omega)|(refine zD rfl rfl ?_ rfl ?_;omega)|(refine zP rfl ?_ rfl ?_;omega)|refine zG rfl rfl rfl rfl ?_|(refine jdq rfl rfl ?_ ?_ ?_;kernel_rfl;kernel_rfl)|refine zB rfl rfl rfl (by repeat constructor) rfl ?_|refine zH .here rfl rfl rfl rfl ?_|refine zH (.there .here) rfl rfl rfl rfl ?_|refine zH (.there (.there .here)) rfl rfl rfl rfl ?_)
    exact J_joined ((downP (bookC b m tg) T l q).1.reverse, pv, F3) ⟨hF3, row_dg hpv3 (ho32 q), Nat.le_trans (hol q) h80⟩ ⟨⟨rfl, rfl, rfl, rfl, rfl, rfl, rfl, trivial⟩, fun w t => Sat.bring t⟩
  rintro ⟨P, pv, G⟩ ⟨hG, hP, hP80⟩
  dsimp only at hG hP hP80 ⊢
  obtain ⟨pA, kP, rfl, hkP⟩ := hP.form
  repeat (first|refine zJ rfl rfl ?_|refine jr rfl ?_|refine jn ?_|refine zM rfl rfl ?_|(refine zC rfl rfl ?_ rfl ?_;omega)|(refine zD rfl rfl ?_ rfl ?_;omega)|(refine zP rfl ?_ rfl ?_;omega)|refine zG rfl rfl rfl rfl ?_|(refine jdq rfl rfl ?_ ?_ ?_;kernel_rfl;kernel_rfl)|refine zB rfl rfl rfl (by repeat constructor) rfl ?_|refine zH .here rfl rfl rfl rfl ?_|refine zH (.there .here) rfl rfl rfl rfl ?_|refine zH (.there (.there .here)) rfl rfl rfl rfl ?_)
  refine J_loop4 (fun (j : Nat) (G' : PH) (v : Value) (Q : List (List UInt8)) => j ≤ P.length ∧ Q.length = P.length ∧ G.le G' ∧ RowV tyDg G' v Q) (fun j _ _ _ => P.length - j) (fun j _ v _ => [(0, .slice a l.length c), (1, .int .i64 k), (2, .slice al leaf.length kl), (3, v), (11, .pointer (some ⟨b, 0, none⟩)), (12, .pointer (some ⟨b12, 0, none⟩)), (13, Value.slice ao own0.length ko), (70, .int .i64 P.length), (71, .int .i64 j)]) (fun _ G' _ _ => G') (fun _ _ _ _ => blk b12 28 (u8s r) :: ((bookC b m tg).A T ++ X)) 0 G (.slice pA P.length kP) P ⟨Nat.zero_le _, rfl, PH.ler _, hP⟩ ⟨⟨rfl, rfl, rfl, rfl, rfl, rfl, rfl, rfl, rfl, trivial⟩, fun _ s => s⟩ ?_
  rintro j G' v Q ⟨hj, hQl, hG', hQ⟩
  obtain ⟨aQ, kQ, rfl, hkQ⟩ := hQ.form
  obtain ⟨hQd, hQ32⟩ := dg_row hQ
  rw [hQl] at hQd hkQ ⊢
  by_cases hlt : j < P.length
  · by_cases ho : j < own0.length
    · have gq : Q[j]? = some (Q[j]'(by omega)) := List.getElem?_eq_getElem _
      have go : own0[j]? = some own0[j] := List.getElem?_eq_getElem ho
      obtain ⟨bq, oq, rfl, hcq⟩ := DgV.at (n := P.length) (by have h9 := hQd; unfold DgV at h9; rw [hQl] at h9; exact h9) hQ32 gq (by omega)
      obtain ⟨bo, oo, rfl, hco⟩ := DgV.at (SliceV.mono hov (hG.trans hG')) ho32k go ho
      have hd := hQ32 _ (List.mem_of_getElem? gq)
      have hod := ho32k _ (List.mem_of_getElem? go)
      generalize own0[j] = od at *
      obtain ⟨hlay, hset32⟩ := dgC_set gq hQ32 hod
      generalize (Q[j]'(by omega)) = d at *
      have hd8 : (u8s d).length = 32 := by rw [u8s_len, hd]
      have hod8 : (u8s od).length = 32 := by rw [u8s_len, hod]
      by_cases hz : d = zd32
      · have hpre := (dg_row (hQ.pre j (by omega))).1
        have hsuf := (dg_row (hQ.suf j (by omega) (by omega))).1
        have l1 : (Q.take j).length = j := by rw [List.length_take]; omega
        have l2 : (Q.drop j).length = P.length - j := by rw [List.length_drop, hQl]
        repeat (first|refine zJ rfl rfl ?_|refine jr rfl ?_|refine jn ?_|refine zM rfl rfl ?_|(refine zC rfl rfl ?_ rfl ?_;omega)|(refine zD rfl rfl ?_ rfl ?_;omega)|(refine zP rfl ?_ rfl ?_;omega)|refine zG rfl rfl rfl rfl ?_|(refine jdq rfl rfl ?_ ?_ ?_;kernel_rfl;kernel_rfl)|refine zB rfl rfl rfl (by repeat constructor) rfl ?_|refine zH .here rfl rfl rfl rfl ?_|refine zH (.there .here) rfl rfl rfl rfl ?_|refine zH (.there (.there .here)) rfl rfl rfl rfl ?_)
        refine oS (ev_indexAddr rfl rfl rfl hlt) rfl ?_
        refine oS (ev_load_agg (cs := u8s d) rfl rfl (Rdb.ofF hcq) hd8) rfl ?_
        refine oS dg_build rfl ?_
        refine oS (ev_arr_eql' (r := true) (xs := d) (ys := zd32) (n := 32) (e := 5) rfl rfl (by kernel_rfl) (by kernel_rfl) hd rfl (by kernel_rfl) (by simp [hz])) rfl ?_
        repeat (first|refine zJ rfl rfl ?_|refine jr rfl ?_|refine jn ?_|refine zM rfl rfl ?_|(refine zC rfl rfl ?_ rfl ?_;omega)|(refine zD rfl rfl ?_ rfl ?_;omega)|(refine zP rfl ?_ rfl ?_;omega)|refine zG rfl rfl rfl rfl ?_|(refine jdq rfl rfl ?_ ?_ ?_;kernel_rfl;kernel_rfl)|refine zB rfl rfl rfl (by repeat constructor) rfl ?_|refine zH .here rfl rfl rfl rfl ?_|refine zH (.there .here) rfl rfl rfl rfl ?_|refine zH (.there (.there .here)) rfl rfl rfl rfl ?_)
        unfold DgV at hpre hsuf
        rw [l1] at hpre
        rw [l2, hQl] at hsuf
        refine ja G' [] ?_ (fun w t => t.bare) ?_; kernel_rfl
        refine aT 1 rfl (ev_qe rfl) rfl rfl ?_ ?_ ?_ ?_; kernel_rfl; kernel_rfl; kernel_rfl
        refine aT 2 rfl (ev_qe rfl) rfl rfl ?_ ?_ ?_ ?_; kernel_rfl; kernel_rfl; kernel_rfl
        refine aT 3 rfl (ev_slice_hi (h := j) rfl rfl rfl (by omega)) rfl rfl ?_ ?_ ?_ ?_; kernel_rfl; kernel_rfl; kernel_rfl
        refine aT 5 rfl (ev_qe rfl) rfl rfl ?_ ?_ ?_ ?_; kernel_rfl; kernel_rfl; kernel_rfl
        refine aT 6 rfl (ev_qe rfl) rfl rfl ?_ ?_ ?_ ?_; kernel_rfl; kernel_rfl; kernel_rfl
        refine aT 7 rfl (ev_slice_lo (lo := j) rfl rfl rfl (by omega)) rfl rfl ?_ ?_ ?_ ?_; kernel_rfl; kernel_rfl; kernel_rfl
        refine aB (i := 0) (by kernel_rfl) (aE rfl (ev_mt elD) rfl rfl (fun _ _ _ hF hq w t => t.bare.mono hF) ?_)
        rintro u0 _ _ _ ⟨rfl, ⟨b0, rfl⟩, rfl⟩
        refine aB (i := 4) (by kernel_rfl) (aE rfl (ev_append_s (n := 0) (m := j) (xs := []) (news := dgC (Q.take j)) (K := fun v' => own v' 28 32 j (dgC (Q.take j)) :: blk b12 28 (u8s r) :: ((bookC b m tg).A T ++ X)) rfl rfl elD hpre.rds (dgC_ones _) (by omega) (fun v' => by rw [Nat.zero_add, List.nil_append]; exact .here)) rfl rfl (fun _ _ _ hF hq w t => t.bare.mono hF) ?_)
        rintro u1 _ _ _ ⟨rfl, _, rfl⟩
        refine aB (i := 8) (by kernel_rfl) (aE rfl (ev_append_s (n := j) (m := P.length - j) (xs := dgC (Q.take j)) (news := dgC (Q.drop j)) (K := fun v' => own v' 28 32 P.length (dgC Q) :: blk b12 28 (u8s r) :: ((bookC b m tg).A T ++ X)) rfl rfl elD hsuf.rds (dgC_ones _) (by omega) (fun v' => by rw [← dgC_app, List.take_append_drop, show j + (P.length - j) = P.length from by omega]; exact .here)) rfl rfl (fun _ _ _ hF hq w t => t.bare.mono hF) ?_)
        rintro u2 _ _ _ ⟨rfl, _, rfl⟩
        refine aT 9 rfl (ev_qe rfl) rfl rfl ?_ ?_ ?_ ?_; kernel_rfl; kernel_rfl; kernel_rfl
        refine aD (by kernel_rfl) ?_
        refine jWith .here OwnForm.of fun hfx => ?_
        obtain ⟨ax, cx, rfl, hcx, _, hax⟩ := hfx
        obtain ⟨bx, rfl⟩ := hax (by omega)
        repeat (first|refine zJ rfl rfl ?_|refine jr rfl ?_|refine jn ?_|refine zM rfl rfl ?_|(refine zC rfl rfl ?_ rfl ?_;omega)|(refine zD rfl rfl ?_ rfl ?_;omega)|(refine zP rfl ?_ rfl ?_;omega)|refine zG rfl rfl rfl rfl ?_|(refine jdq rfl rfl ?_ ?_ ?_;kernel_rfl;kernel_rfl)|refine zB rfl rfl rfl (by repeat constructor) rfl ?_|refine zH .here rfl rfl rfl rfl ?_|refine zH (.there .here) rfl rfl rfl rfl ?_|refine zH (.there (.there .here)) rfl rfl rfl rfl ?_)
        refine oS (ev_indexAddr rfl rfl rfl ho) rfl ?_
        refine oS (ev_load_agg (cs := u8s od) rfl rfl (Rdb.ofF hco) hod8) rfl ?_
        refine oS (ev_indexAddr (i := j) rfl rfl rfl hlt) rfl ?_
        refine oN (ev_store_own (vs := u8s od) rfl rfl .agg rfl hod8 (by rw [Nat.zero_add]; exact hlay) (u8s_ones _) .here) rfl ?_
        rintro _ _ _ _ ⟨rfl, _, rfl⟩
        repeat (first|refine zJ rfl rfl ?_|refine jr rfl ?_|refine jn ?_|refine zM rfl rfl ?_|(refine zC rfl rfl ?_ rfl ?_;omega)|(refine zD rfl rfl ?_ rfl ?_;omega)|(refine zP rfl ?_ rfl ?_;omega)|refine zG rfl rfl rfl rfl ?_|(refine jdq rfl rfl ?_ ?_ ?_;kernel_rfl;kernel_rfl)|refine zB rfl rfl rfl (by repeat constructor) rfl ?_|refine zH .here rfl rfl rfl rfl ?_|refine zH (.there .here) rfl rfl rfl rfl ?_|refine zH (.there (.there .here)) rfl rfl rfl rfl ?_)
        refine J_persist fun hh hA hdj => ?_
        have hnew : DgV (G'.un hh) (.slice (some ⟨bx, 0, none⟩) P.length cx) (Q.set j od) := by
          have := own_slice hA hdj
          unfold DgV
          rw [List.length_set, hQl]
          exact this
        have hG2 := PH.le_l G' hh
        generalize G'.un hh = G2 at *
        exact J_again4 (j + 1) G2 _ (Q.set j od) ⟨hlt, by rw [List.length_set]; exact hQl, hG'.trans hG2, row_dg hnew hset32⟩ (by omega) ⟨⟨rfl, rfl, rfl, rfl, rfl, rfl, rfl, rfl, rfl, trivial⟩, fun w s => s⟩
      · repeat (first|refine zJ rfl rfl ?_|refine jr rfl ?_|refine jn ?_|refine zM rfl rfl ?_|(refine zC rfl rfl ?_ rfl ?_;omega)|(refine zD rfl rfl ?_ rfl ?_;omega)|(refine zP rfl ?_ rfl ?_;omega)|refine zG rfl rfl rfl rfl ?_|(refine jdq rfl rfl ?_ ?_ ?_;kernel_rfl;kernel_rfl)|refine zB rfl rfl rfl (by repeat constructor) rfl ?_|refine zH .here rfl rfl rfl rfl ?_|refine zH (.there .here) rfl rfl rfl rfl ?_|refine zH (.there (.there .here)) rfl rfl rfl rfl ?_)
        refine oS (ev_indexAddr rfl rfl rfl hlt) rfl ?_
        refine oS (ev_load_agg (cs := u8s d) rfl rfl (Rdb.ofF hcq) hd8) rfl ?_
        refine oS dg_build rfl ?_
        refine oS (ev_arr_eql' (r := false) (xs := d) (ys := zd32) (n := 32) (e := 5) rfl rfl (by kernel_rfl) (by kernel_rfl) hd rfl (by kernel_rfl) (by simp [hz])) rfl ?_
        repeat (first|refine zJ rfl rfl ?_|refine jr rfl ?_|refine jn ?_|refine zM rfl rfl ?_|(refine zC rfl rfl ?_ rfl ?_;omega)|(refine zD rfl rfl ?_ rfl ?_;omega)|(refine zP rfl ?_ rfl ?_;omega)|refine zG rfl rfl rfl rfl ?_|(refine jdq rfl rfl ?_ ?_ ?_;kernel_rfl;kernel_rfl)|refine zB rfl rfl rfl (by repeat constructor) rfl ?_|refine zH .here rfl rfl rfl rfl ?_|refine zH (.there .here) rfl rfl rfl rfl ?_|refine zH (.there (.there .here)) rfl rfl rfl rfl ?_)
        exact J_again4 (j + 1) G' _ Q ⟨hlt, hQl, hG', by rw [← hQl] at *; exact hQ⟩ (by omega) ⟨⟨rfl, rfl, rfl, rfl, rfl, rfl, rfl, rfl, rfl, trivial⟩, fun w s => s⟩
    · repeat (first|refine zJ rfl rfl ?_|refine jr rfl ?_|refine jn ?_|refine zM rfl rfl ?_|(refine zC rfl rfl ?_ rfl ?_;omega)|(refine zD rfl rfl ?_ rfl ?_;omega)|(refine zP rfl ?_ rfl ?_;omega)|refine zG rfl rfl rfl rfl ?_|(refine jdq rfl rfl ?_ ?_ ?_;kernel_rfl;kernel_rfl)|refine zB rfl rfl rfl (by repeat constructor) rfl ?_|refine zH .here rfl rfl rfl rfl ?_|refine zH (.there .here) rfl rfl rfl rfl ?_|refine zH (.there (.there .here)) rfl rfl rfl rfl ?_)
      exact J_again4 (j + 1) G' _ Q ⟨hlt, hQl, hG', by rw [← hQl] at *; exact hQ⟩ (by omega) ⟨⟨rfl, rfl, rfl, rfl, rfl, rfl, rfl, rfl, rfl, trivial⟩, fun w s => s⟩
  · obtain rfl : j = P.length := by omega
    have hG0 := hF0.trans (hF1.trans (hF2.trans (hG.trans hG')))
    obtain ⟨bl, ol, csl, rfl, hcl, ⟨vx, rfl, hx⟩, _⟩ := (h.mono (hG.trans hG')).at hg
    have hlv' := SliceV.mono hlv (hG.trans hG')
    repeat (first|refine zJ rfl rfl ?_|refine jr rfl ?_|refine jn ?_|refine zM rfl rfl ?_|(refine zC rfl rfl ?_ rfl ?_;omega)|(refine zD rfl rfl ?_ rfl ?_;omega)|(refine zP rfl ?_ rfl ?_;omega)|refine zG rfl rfl rfl rfl ?_|(refine jdq rfl rfl ?_ ?_ ?_;kernel_rfl;kernel_rfl)|refine zB rfl rfl rfl (by repeat constructor) rfl ?_|refine zH .here rfl rfl rfl rfl ?_|refine zH (.there .here) rfl rfl rfl rfl ?_|refine zH (.there (.there .here)) rfl rfl rfl rfl ?_)
    refine oS (ev_makeInterface rfl (by kernel_rfl)) rfl ?_
    refine oS (ev_load_agg (cs := u8s r) rfl rfl (Rdb.ofB (n := 0) .here (by rw [List.drop_zero, List.take_length])) hr8) rfl ?_
    repeat (first|refine zJ rfl rfl ?_|refine jr rfl ?_|refine jn ?_|refine zM rfl rfl ?_|(refine zC rfl rfl ?_ rfl ?_;omega)|(refine zD rfl rfl ?_ rfl ?_;omega)|(refine zP rfl ?_ rfl ?_;omega)|refine zG rfl rfl rfl rfl ?_|(refine jdq rfl rfl ?_ ?_ ?_;kernel_rfl;kernel_rfl)|refine zB rfl rfl rfl (by repeat constructor) rfl ?_|refine zH .here rfl rfl rfl rfl ?_|refine zH (.there .here) rfl rfl rfl rfl ?_|refine zH (.there (.there .here)) rfl rfl rfl rfl ?_)
    refine oC (Hc := (bookC b m tg).A T) (Hr := blk b12 28 (u8s r) :: X) (check_spec (bookC b m tg) T r l.length k leaf Q _ _ G' (by omega) hk2 (by omega) (by omega) hlv' hQd hQ32 hlen) Try.call19 rfl rfl (fun w t => Sat.front (A := [_]) (B := (bookC b m tg).A T) (C := X) t) ?_
    rintro _ G2 _ hG2 ⟨rfl, rfl⟩
    rw [hcs Q hQ32 (by omega)]
    replace hlv' := SliceV.mono hlv' hG2
    replace hx := SliceV.mono hx hG2
    replace hcl := hcl.mono hG2
    repeat (first|refine zJ rfl rfl ?_|refine jr rfl ?_|refine jn ?_|refine zM rfl rfl ?_|(refine zC rfl rfl ?_ rfl ?_;omega)|(refine zD rfl rfl ?_ rfl ?_;omega)|(refine zP rfl ?_ rfl ?_;omega)|refine zG rfl rfl rfl rfl ?_|(refine jdq rfl rfl ?_ ?_ ?_;kernel_rfl;kernel_rfl)|refine zB rfl rfl rfl (by repeat constructor) rfl ?_|refine zH .here rfl rfl rfl rfl ?_|refine zH (.there .here) rfl rfl rfl rfl ?_|refine zH (.there (.there .here)) rfl rfl rfl rfl ?_)
    refine ja G2 [] ?_ (fun w t => t.bare) ?_; kernel_rfl
    refine aT 0 rfl (ev_qe rfl) rfl rfl ?_ ?_ ?_ ?_; kernel_rfl; kernel_rfl; kernel_rfl
    refine aT 1 rfl (ev_qe rfl) rfl rfl ?_ ?_ ?_ ?_; kernel_rfl; kernel_rfl; kernel_rfl
    refine aT 2 rfl (eb_string rfl hlv'.rds) rfl rfl ?_ ?_ ?_ ?_; kernel_rfl; kernel_rfl; kernel_rfl
    refine aT 3 rfl (ev_qe rfl) rfl rfl ?_ ?_ ?_ ?_; kernel_rfl; kernel_rfl; kernel_rfl
    refine aT 4 rfl (ev_qe rfl) rfl rfl ?_ ?_ ?_ ?_; kernel_rfl; kernel_rfl; kernel_rfl
    refine aT 5 rfl (ev_indexAddr rfl rfl rfl hk2) rfl rfl ?_ ?_ ?_ ?_; kernel_rfl; kernel_rfl; kernel_rfl
    refine aT 6 rfl (ev_load rfl rfl (Rdb.ofF hcl)) rfl rfl ?_ ?_ ?_ ?_; kernel_rfl; kernel_rfl; kernel_rfl
    refine aT 7 rfl (eb_string rfl hx.rds) rfl rfl ?_ ?_ ?_ ?_; kernel_rfl; kernel_rfl; kernel_rfl
    by_cases he : leaf = x
    · refine aT 8 rfl (ev_seql (r := true) rfl rfl (by simp [he])) rfl rfl ?_ ?_ ?_ ?_; kernel_rfl; kernel_rfl; kernel_rfl
      refine aT 9 rfl (ev_qe rfl) rfl rfl ?_ ?_ ?_ ?_; kernel_rfl; kernel_rfl; kernel_rfl
      refine aT 10 rfl (ev_qe rfl) rfl rfl ?_ ?_ ?_ ?_; kernel_rfl; kernel_rfl; kernel_rfl
      refine aT 11 rfl (ev_qe rfl) rfl rfl ?_ ?_ ?_ ?_; kernel_rfl; kernel_rfl; kernel_rfl
      refine aB (i := 12) (by kernel_rfl) (aP rfl (same_spec Q own0 _ _ G2 (SliceV.mono hQd hG2) (SliceV.mono hov ((hG.trans hG').trans hG2)) hQ32 ho32k (by omega) (by omega)) Try.call14 rfl rfl rfl (fun _ s => s.bare) ?_)
      refine aT 13 rfl (ev_qe rfl) rfl rfl ?_ ?_ ?_ ?_; kernel_rfl; kernel_rfl; kernel_rfl
      refine aT 14 rfl (ev_beql (r := true) rfl rfl Try.underlying4 (by simp [he])) rfl rfl ?_ ?_ ?_ ?_; kernel_rfl; kernel_rfl; kernel_rfl
      refine aT 15 rfl (ev_qe rfl) rfl rfl ?_ ?_ ?_ ?_; kernel_rfl; kernel_rfl; kernel_rfl
      refine aD (by kernel_rfl) ?_
      repeat (first|refine zJ rfl rfl ?_|refine jr rfl ?_|refine jn ?_|refine zM rfl rfl ?_|(refine zC rfl rfl ?_ rfl ?_;omega)|(refine zD rfl rfl ?_ rfl ?_;omega)|(refine zP rfl ?_ rfl ?_;omega)|refine zG rfl rfl rfl rfl ?_|(refine jdq rfl rfl ?_ ?_ ?_;kernel_rfl;kernel_rfl)|refine zB rfl rfl rfl (by repeat constructor) rfl ?_|refine zH .here rfl rfl rfl rfl ?_|refine zH (.there .here) rfl rfl rfl rfl ?_|refine zH (.there (.there .here)) rfl rfl rfl rfl ?_)
      exact J_retv rfl (.tmp rfl .nil) [] (fun w t => Sat.drop (Sat.drop (Sat.out1 (K := (bookC b m tg).A (climbP (bookC b m tg) T l.length k leaf Q).2) t))) (hG0.trans hG2) ⟨rfl, rfl⟩
    · refine aT 8 rfl (ev_seql (r := false) rfl rfl (by simp [he])) rfl rfl ?_ ?_ ?_ ?_; kernel_rfl; kernel_rfl; kernel_rfl
      refine aT 9 rfl (ev_qe rfl) rfl rfl ?_ ?_ ?_ ?_; kernel_rfl; kernel_rfl; kernel_rfl
      refine aX 10 rfl rfl rfl ?_ ?_ ?_ ?_; kernel_rfl; kernel_rfl; kernel_rfl
      refine aX 11 rfl rfl rfl ?_ ?_ ?_ ?_; kernel_rfl; kernel_rfl; kernel_rfl
      refine aB (i := 12) (by kernel_rfl) (aXB rfl rfl rfl ?_)
      refine aT 13 rfl (ev_qe rfl) rfl rfl ?_ ?_ ?_ ?_; kernel_rfl; kernel_rfl; kernel_rfl
      refine aT 14 rfl (ev_beql (r := true) rfl rfl Try.underlying4 (by simp [he])) rfl rfl ?_ ?_ ?_ ?_; kernel_rfl; kernel_rfl; kernel_rfl
      refine aT 15 rfl (ev_qe rfl) rfl rfl ?_ ?_ ?_ ?_; kernel_rfl; kernel_rfl; kernel_rfl
      refine aD (by kernel_rfl) ?_
      repeat (first|refine zJ rfl rfl ?_|refine jr rfl ?_|refine jn ?_|refine zM rfl rfl ?_|(refine zC rfl rfl ?_ rfl ?_;omega)|(refine zD rfl rfl ?_ rfl ?_;omega)|(refine zP rfl ?_ rfl ?_;omega)|refine zG rfl rfl rfl rfl ?_|(refine jdq rfl rfl ?_ ?_ ?_;kernel_rfl;kernel_rfl)|refine zB rfl rfl rfl (by repeat constructor) rfl ?_|refine zH .here rfl rfl rfl rfl ?_|refine zH (.there .here) rfl rfl rfl rfl ?_|refine zH (.there (.there .here)) rfl rfl rfl rfl ?_)
      exact J_retv rfl (.tmp rfl .nil) [] (fun w t => Sat.drop (Sat.drop (Sat.out1 (K := (bookC b m tg).A (climbP (bookC b m tg) T l.length k leaf Q).2) t))) (hG0.trans hG2) ⟨rfl, rfl⟩
open Go.ChangeShapes Go.WideShapes Go.ChangeAt
set_option maxRecDepth 100000 in theorem AttestSure_lifted (os : Os) (started : os.Started) (H : Type) (enc : TypeId × Value → H) : ReturnsInHanded {} Try.checked os 5 .any (Rows.attestSureSpec.pre6 enc Try.prog Try.f5 Rows.attestSureRow.domain false) (Rows.attestSureSpec.post enc Try.prog Try.f5 false true false false) := by
  refine returnsInHanded_of_change (C := Try.checked) own_knob started (by kernel_rfl) Try.func5 (ChangeSpec.witness6 (enc := enc) (C := Try.checked) false ⟨#[], #[.slice none 0 0, .int .i64 0, .slice none 0 0, .slice none 0 0, .int .i64 0], []⟩ 8 (by kernel_rfl) (by kernel_rfl) (by kernel_rfl) (by kernel_rfl)) ?_; intro W base args ds gs before hval0 hW hcnd _; have hval : ∀ (j : Nat) t v, Try.f5.params[j]? = some t → args[j]? = some v → Value.okWide Try.prog W .any base t v := hval0; have hW' := hW; obtain ⟨p, q, hA0, hV, hp, hfz, hnd⟩ := hW; have hA : DataW.TrodAll enc Try.prog W 0 (fun _ => true) true Try.f5.params.toList args.toList ds p := hA0; obtain ⟨rfl, rfl⟩ := trodVars_none hV; rw [List.append_nil] at hp; have hA' := hA; rw [Try.params5] at hA hval
  obtain ⟨v0, vs0, d0, ds0, p0, q0, hargs, rfl, rfl, h0, r0⟩ := trodAll_cons hA; obtain ⟨v1, vs1, d1, ds1, p1, q1, rfl, rfl, rfl, h1, r1⟩ := trodAll_cons r0; obtain ⟨v2, vs2, d2, ds2, p2, q2, rfl, rfl, rfl, h2, r2⟩ := trodAll_cons r1; obtain ⟨v3, vs3, d3, ds3, p3, q3, rfl, rfl, rfl, h3, r3⟩ := trodAll_cons r2; obtain ⟨v4, vs4, d4, ds4, p4, q4, rfl, rfl, rfl, h4, r4⟩ := trodAll_cons r3; obtain ⟨rfl, rfl, rfl⟩ := trodAll_nil r4; obtain rfl : args = #[v0, v1, v2, v3, v4] := by cases args; simp_all
  obtain ⟨l, hx, hm⟩ := open_rowB tyByt Try.underlying22 (by kernel_rfl) (by decide) (hval 0 22 v0 rfl rfl) h0
  obtain ⟨i, rfl, rfl, rfl, w1⟩ := open_int Try.underlying3 (hval 1 3 v1 rfl rfl) h1
  obtain ⟨ab, kb, bs, rfl, _, _, hbs⟩ := open_byt Try.underlying36 Try.underlying5 (by kernel_rfl) (hval 2 36 v2 rfl rfl) h2
  obtain ⟨ds, hd, _⟩ := open_rowB tyDg Try.underlying31 (by kernel_rfl) (by decide) (hval 3 31 v3 rfl rfl) h3
  obtain ⟨fr, rfl, rfl, rfl, w4⟩ := open_int Try.underlying3 (hval 4 3 v4 rfl rfl) h4
  obtain ⟨a0, c0, rfl, _⟩ := hx.form
  obtain ⟨a3, c3, rfl, _⟩ := hd.form
  refine (law_walk (AttestSure_walk l i bs ds fr a0 ab a3 c0 kb c3 (ph W) hx hm hbs hd)).mono fun e W' ⟨he, hb⟩ => ?_
  subst he
  exact ⟨_, rfl, law_post laid_out (by kernel_rfl) rfl rfl Try.underlying4 hW' hA' hp rfl hb⟩
theorem AttestSure_holds : Rows.AttestSureSaid := OpenClaim.holds_of_wide 5 Try.f5 rfl rfl rfl rfl rfl rfl rfl ⟨rfl, rfl, rfl, rfl, rfl⟩ rfl rfl rfl rfl rfl (by kernel_rfl) Try.func5 (by kernel_rfl) (of_decide_eq_true (by kernel_rfl)) (by unfold Func.isWrapper; first | (rw [if_pos (by decide +kernel)]; kernel_rfl) | (rw [if_neg (by decide +kernel)]; exact ⟨rfl, rfl⟩)) (fun os started H enc _ => AttestSure_lifted os started H enc)
#print axioms AttestSure_holds
end Go.Proofs.Ytohlmhoacjodjaa
