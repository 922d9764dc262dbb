/-
  A replica alone: New and Tick as calls. Conditions are typed with each.
-/
import Derived.Test.YtjjjckmpkldgnaaGreatDoorUai
import Derived.Test.YtjjjckmpkldgnaaGreatDoorIe
namespace Go.Proofs.YtjjjckmpkldgnaaGreatDoor.Rk
open Go.RowKit Run
set_option maxRecDepth 100000
theorem sv_fun {F G : PH} {φ : Vl} {x : SV} {u u' : Value} (e : noFS x = true) (h : SvD F φ x u) (h' : SvD G φ x u') : u = u' := by
  cases x with
  | int => exact Eq.trans h (Eq.symm h')
  | bool => exact Eq.trans h (Eq.symm h')
  | str => exact Eq.trans h.2 (Eq.symm h'.2)
  | ptr => obtain ⟨b, κ, e1, rfl⟩ := h; obtain ⟨b', κ', e2, rfl⟩ := h'; rw [e1] at e2; cases e2; rfl
  | slc => obtain ⟨b, κ, e1, _, rfl⟩ := h; obtain ⟨b', κ', e2, _, rfl⟩ := h'; rw [e1] at e2; cases e2; rfl
  | map => obtain ⟨b, κ, e1, rfl⟩ := h; obtain ⟨b', κ', e2, rfl⟩ := h'; rw [e1] at e2; cases e2; rfl
  | ifc => obtain ⟨b, κ, e1, rfl⟩ := h; obtain ⟨b', κ', e2, rfl⟩ := h'; rw [e1] at e2; cases e2; rfl
  | fn => cases e
  | pby => cases e
  | nilp => exact Eq.trans h (Eq.symm h')
  | nils => exact Eq.trans h (Eq.symm h')
  | nilm => exact Eq.trans h (Eq.symm h')
  | nilf => exact Eq.trans h (Eq.symm h')
  | nili => exact Eq.trans h (Eq.symm h')
theorem svs_fun {F G : PH} {φ : Vl} : ∀ {l : List SV} {us us' : List Value}, l.all noFS = true → All2 (SvD F φ) l us → All2 (SvD G φ) l us' → us = us'
  | [], _, _, _, .nil, .nil => rfl
  | _ :: _, _, _, e, .cons h t, .cons h' t' => by
    rw [List.all_cons, Bool.and_eq_true] at e
    rw [sv_fun e.1 h h', svs_fun e.2 t t']
theorem star_imp {A A' : Asrt} {H H' : List Asrt} (a : ∀ h, A h → A' h) (t : ∀ r, Star H r → Star H' r) : ∀ r, Star (A :: H) r → Star (A' :: H') r :=
  fun _ ⟨x, y, hx, hy, hd, e⟩ => ⟨x, y, a x hx, t y hy, hd, e⟩
theorem star_open {A B : Asrt} {L : List Asrt} (t : ∀ r, B r → Star L r) : ∀ r, Star [A, B] r → Star (A :: L) r := fun r h => by
  obtain ⟨a, b, ha, hb, hd, e⟩ := star_two.1 h
  exact ⟨a, b, ha, t b hb, hd, e⟩
theorem star_group {B : Asrt} {L K : List Asrt} (t : ∀ r, Star L r → B r) : ∀ r, Star (L ++ K) r → Star (B :: K) r := fun r h => by
  obtain ⟨a, b, ha, hb, hd, e⟩ := Star.append.1 h
  exact ⟨a, b, t a ha, hb, hd, e⟩
theorem Spec.pre {P : Program} {f : FuncId} {vs : List Value} {F : PH} {H K : List Asrt} {Q : Value → PH → List Asrt → Prop} (hk : ∀ r, Star H r → Star K r) (h : Spec P f vs F K Q) : Spec P f vs F H Q := by
  unfold Spec at *
  intro X w ⟨r, hr, hd, hl⟩
  obtain ⟨a, b, ha, hb, hab, e⟩ := Star.append.1 hr
  exact h X w ⟨r, Star.append.2 ⟨a, b, hk a ha, hb, hab, e⟩, hd, hl⟩
/-- The cells of a replica that nothing has been taken by. -/
abbrev repC (kb : Nat) (d : Int) (a b c e f g h i : Value) : List Value := [.iface 27 (ptr kb), .int .i64 4, .int .i64 1, .int .i64 0, .bool true, .int .i64 0, .slice none 0 0, .slice none 0 0, .int .i64 0, a, b, c, e, f, g, h, i, .int .i64 d, .slice none 0 0]
/-- What is known of it. -/
structure Rf (φ : Vl) (b kb : Nat) (a0 a1 a2 a3 a4 a5 a6 a7 : Value) : Prop where
  h36 : ∃ κ, φ 36 = some (b, κ)
  h2 : ∃ κ, φ 2 = some (kb, κ)
  hi : ∀ n, 50 ≤ n → φ n = none
  hR : ∀ p ∈ repR, ∃ x, φ p.1 = some x
  mid : All2 (SvD PH.emp φ) midC [a0, a1, a2, a3, a4, a5, a6, a7]
noncomputable def repL (d : Int) : List SV := [.ifc 27 2 0, I 4, I 1, I 0, bt, I 0, zs, zs, I 0] ++ (midC ++ [.int .i64 d, zs])
section
variable {φ : Vl} {b kb : Nat} {a0 a1 a2 a3 a4 a5 a6 a7 : Value}
theorem Rf.cells (R : Rf φ b kb a0 a1 a2 a3 a4 a5 a6 a7) (d : Int) : All2 (SvD PH.emp φ) (repL d) (repC kb d a0 a1 a2 a3 a4 a5 a6 a7) := by
  obtain ⟨κ, h2⟩ := R.h2
  have h1 : All2 (SvD PH.emp φ) [.ifc 27 2 0, I 4, I 1, I 0, bt, I 0, zs, zs, I 0] [.iface 27 (ptr kb), .int .i64 4, .int .i64 1, .int .i64 0, .bool true, .int .i64 0, .slice none 0 0, .slice none 0 0, .int .i64 0] :=
    .cons ⟨kb, κ, h2, rfl⟩ (.cons rfl (.cons rfl (.cons rfl (.cons rfl (.cons rfl (.cons rfl (.cons rfl (.cons rfl .nil))))))))
  have h3 : All2 (SvD PH.emp φ) [.int .i64 d, zs] [.int .i64 d, .slice none 0 0] := .cons rfl (.cons rfl .nil)
  exact h1.app (R.mid.app h3)
theorem Rf.blk (R : Rf φ b kb a0 a1 a2 a3 a4 a5 a6 a7) {κ : Nat} (d : Int) (h : PH) : ob1 φ b κ (repO d) h ↔ blk b 77 (repC kb d a0 a1 a2 a3 a4 a5 a6 a7) h := by
  constructor
  · rintro ⟨ob, ⟨us, h1, rfl⟩, rfl⟩
    have h1 : All2 (SvD PH.emp φ) (repL d) us := h1
    rw [svs_fun (by kernel_rfl) h1 (R.cells d)]
    rfl
  · intro e
    exact ⟨_, ⟨_, R.cells d, rfl⟩, e⟩
set_option maxHeartbeats 4000000 in
theorem reptick_spec (R : Rf φ b kb a0 a1 a2 a3 a4 a5 a6 a7) (d : Int) (F : PH) : Spec Tryz.prog 9 [ptr b] F [blk b 77 (repC kb d a0 a1 a2 a3 a4 a5 a6 a7), Obs φ (hpT repR).get] fun u F' H' => F = F' ∧ u = .slice none 0 0 ∧ H' = [blk b 77 (repC kb d a0 a1 a2 a3 a4 a5 a6 a7), Obs φ (hpT repR).get] := by
  obtain ⟨κ, h36⟩ := R.h36
  obtain ⟨κ2, h2⟩ := R.h2
  have hn : (hpT repR).get 36 = none := by kernel_rfl
  have hno36 : repR.all (fun p => !(Nat.beq p.1 36)) = true := by kernel_rfl
  have hmem : ∀ p : Nat × AO, p ∈ repR → p.1 ≠ 36 := fun p hp e => by
    have := List.all_eq_true.1 hno36 p hp
    rw [e] at this
    cases this
  refine Spec.pre (K := [Obs φ (hpT ((36, repO d) :: repR)).get]) (fun r hr => ?_) ?_
  · refine ⟨r, PH.emp, (obs_cons hn h36 r).2 (star_imp (fun h => (R.blk d h).2) (fun _ h => h) r hr), rfl, PH.dj_emp _, (PH.un_emp r).symm⟩
  · refine Spec.fold (rk_spec (f := 9) (fn := Tryz.f9) (by kernel_rfl) rfl (tick_run d) (ks := [36]) (fun q hq => ?_) (by kernel_rfl) (by kernel_rfl) R.hi (.cons ⟨b, κ, h36, rfl⟩ .nil) (by kernel_rfl) (fun n hn => ?_) F) fun v G H' hG hQ => ?_
    · rcases List.mem_cons.1 hq with e | e
      · cases e; rfl
      · exact absurd rfl (hmem _ e)
    · cases List.mem_singleton.1 hn; exact .inl ⟨_, h36⟩
    · obtain ⟨rfl, φ', hle, _, hv, _, rfl⟩ := hQ
      refine ⟨_, ⟨rfl, hv, rfl⟩, fun r hr => ?_⟩
      obtain ⟨x, _, hx, rfl, _, rfl⟩ := hr
      rw [PH.un_emp]
      have hR : ∀ n ∈ (2 :: 36 :: repR.map (·.1)), φ n = φ' n := fun n hn => by
        have : ∃ x, φ n = some x := by
          rcases List.mem_cons.1 hn with rfl | hn
          · exact ⟨_, h2⟩
          · rcases List.mem_cons.1 hn with rfl | hn
            · exact ⟨_, h36⟩
            · obtain ⟨p, hp, rfl⟩ := List.mem_map.1 hn
              exact R.hR p hp
        obtain ⟨x, hx⟩ := this
        rw [hx, hle _ _ hx]
      have hx := Obs.on (ks := 2 :: 36 :: repR.map (·.1)) (by kernel_rfl) hR x hx
      exact star_imp (fun h => (R.blk d h).1) (fun _ h => h) x ((obs_cons hn h36 x).1 hx)
end
/-- The book of a replica that is new: one text is digested, none is tagged. -/
def kN : Go.Proofs.YtjjjckmpkldgnaaGreatDoor.K := ⟨[(104, unp 20 0)], []⟩
theorem mp_one {φ : Vl} {m κ : Nat} : ∀ h, ob1 φ m κ (.map [(Run.A [Y 104, T 20 0], Run.S (I 1), 0)] 1) h → mp keyHs m (digW kN.dg 1) h := by
  rintro h ⟨ob, ⟨ms, rfl, hs⟩, rfl⟩
  refine ⟨ms, 1, rfl, ?_⟩
  generalize hl : ms.toList = l at hs
  cases hs with
  | cons h1 h2 =>
    cases h2
    obtain ⟨⟨us, hk, e1⟩, e2, e3⟩ := h1
    cases hk with
    | cons q1 q2 =>
      cases q2 with
      | cons q2 q3 =>
        cases q3
        have q1 : _ = Value.int .u8 104 := q1
        have q2 := q2.2
        subst q1 q2
        unfold MpC
        rw [hl]
        refine ⟨?_, fun e he => ?_, ?_⟩
        · simp only [List.map_cons, List.map_nil, e1]
          have e2 : _ = Value.int .i64 1 := e2
          rw [e2]
          rfl
        · cases List.mem_singleton.1 he
          rw [e3]; exact Nat.zero_lt_one
        · simp
theorem mp_none {P : Program} {kt : TypeId} {α : Type} [DecidableEq α] (K : KeyT P kt α) {φ : Vl} {m κ : Nat} {c : Nat} : ∀ h, ob1 φ m κ (.map [] c) h → mp K m [] h := by
  rintro h ⟨ob, ⟨ms, rfl, hs⟩, rfl⟩
  refine ⟨ms, c, rfl, ?_⟩
  generalize hl : ms.toList = l at hs
  cases hs
  unfold MpC
  rw [hl]
  exact ⟨rfl, (fun e he => nomatch he), List.nodup_nil⟩
/-- A replica that is new, its book and the rest. -/
theorem repnew_spec (φ : Vl) (kb κ : Nat) (h2 : φ 2 = some (kb, κ)) (hi : ∀ n, 3 ≤ n → φ n = none) (F : PH) : Spec Tryz.prog 5 [.iface 27 (ptr kb), .int .i64 4, .int .i64 1] F [Obs φ (hpT bookH).get] fun u F' H' => F = F' ∧ ∃ ψ b a0 a1 a2 a3 a4 a5 a6 a7, Rf ψ b kb a0 a1 a2 a3 a4 a5 a6 a7 ∧ u = ptr b ∧ H' = [blk b 77 (repC kb 0 a0 a1 a2 a3 a4 a5 a6 a7), bkA kb kN, Obs ψ (hpT repR).get] := by
  have hno : newH.all (fun p => !(Nat.beq p.1 1000000)) = true := by kernel_rfl
  refine Spec.fold (rk_spec (f := 5) (fn := Tryz.f5) (by kernel_rfl) rfl new_run (ks := [36]) (fun q hq => ?_) (by kernel_rfl) (by kernel_rfl) hi (.cons ⟨kb, κ, h2, rfl⟩ (.cons rfl (.cons rfl .nil))) (by kernel_rfl) (fun n hn => ?_) F) fun v G H' hG hQ => ?_
  · have := List.all_eq_true.1 hno _ hq
    cases this
  · cases List.mem_singleton.1 hn; exact .inr (.head _)
  · obtain ⟨rfl, ψ, hle, hψ, ⟨b, κ1, h36, rfl⟩, hdef, rfl⟩ := hQ
    have hq2 := hle _ _ h2
    have d0 := hdef _ (show (0, _) ∈ newH from .tail _ (.tail _ (.head _)))
    have d1 := hdef _ (show (1, _) ∈ newH from .tail _ (.tail _ (.tail _ (.head _))))
    obtain ⟨⟨m0, κ0⟩, d0⟩ := d0
    obtain ⟨⟨m1, κ1'⟩, d1⟩ := d1
    have hR : ∀ p ∈ repR, ∃ x, ψ p.1 = some x := fun p hp => hdef p (.tail _ (.tail _ (.tail _ (.tail _ hp))))
    have hmid : ∃ us, All2 (SvD PH.emp ψ) midC us := by
      have h4 := hR _ (show (4, _) ∈ repR from .head _)
      have h7 := hR _ (show (7, _) ∈ repR from .tail _ (.head _))
      have h9 := hR _ (show (9, _) ∈ repR from .tail _ (.tail _ (.head _)))
      have h10 := hR _ (show (10, _) ∈ repR from .tail _ (.tail _ (.tail _ (.head _))))
      have h12 := hR _ (show (12, _) ∈ repR from .tail _ (.tail _ (.tail _ (.tail _ (.head _)))))
      have h33 := hR _ (show (33, _) ∈ repR from .tail _ (.tail _ (.tail _ (.tail _ (.tail _ (.head _))))))
      have h34 := hR _ (show (34, _) ∈ repR from .tail _ (.tail _ (.tail _ (.tail _ (.tail _ (.tail _ (.head _)))))))
      have h35 := hR _ (show (35, _) ∈ repR from .tail _ (.tail _ (.tail _ (.tail _ (.tail _ (.tail _ (.tail _ (.head _))))))))
      obtain ⟨x4, h4⟩ := h4; obtain ⟨x7, h7⟩ := h7; obtain ⟨x9, h9⟩ := h9; obtain ⟨x10, h10⟩ := h10
      obtain ⟨x12, h12⟩ := h12; obtain ⟨x33, h33⟩ := h33; obtain ⟨x34, h34⟩ := h34; obtain ⟨x35, h35⟩ := h35
      exact ⟨_, .cons ⟨x4.1, x4.2, h4, rfl⟩ (.cons ⟨x7.1, x7.2, h7, rfl⟩ (.cons ⟨x9.1, x9.2, h9, rfl⟩ (.cons ⟨x10.1, x10.2, h10, rfl⟩ (.cons ⟨x12.1, x12.2, h12, rfl⟩ (.cons ⟨x33.1, x33.2, h33, rfl⟩ (.cons ⟨x34.1, x34.2, h34, rfl⟩ (.cons ⟨x35.1, x35.2, h35, rfl⟩ .nil)))))))⟩
    obtain ⟨us, hmid⟩ := hmid
    obtain ⟨a0, a1, a2, a3, a4, a5, a6, a7, rfl⟩ : ∃ a0 a1 a2 a3 a4 a5 a6 a7, us = [a0, a1, a2, a3, a4, a5, a6, a7] := by
      have hm := hmid
      unfold midC at hm
      cases hm with | cons _ hm =>
      cases hm with | cons _ hm =>
      cases hm with | cons _ hm =>
      cases hm with | cons _ hm =>
      cases hm with | cons _ hm =>
      cases hm with | cons _ hm =>
      cases hm with | cons _ hm =>
      cases hm with | cons _ hm =>
      cases hm
      exact ⟨_, _, _, _, _, _, _, _, rfl⟩
    have R : Rf ψ b kb a0 a1 a2 a3 a4 a5 a6 a7 := ⟨⟨_, h36⟩, ⟨_, hq2⟩, hψ, hR, hmid⟩
    refine ⟨_, ⟨rfl, ψ, b, a0, a1, a2, a3, a4, a5, a6, a7, R, rfl, rfl⟩, fun r hr => ?_⟩
    obtain ⟨x, _, hx, rfl, _, rfl⟩ := hr
    rw [PH.un_emp]
    have s1 := (obs_cons (by kernel_rfl) h36 x).1 hx
    have s2 := star_open (fun r h => (obs_cons (by kernel_rfl) hq2 r).1 h) x s1
    have s3 := star_imp (fun _ h => h) (star_open fun r h => (obs_cons (by kernel_rfl) d0 r).1 h) x s2
    have s4 := star_imp (fun _ h => h) (star_imp (fun _ h => h) (star_open fun r h => (obs_cons (by kernel_rfl) d1 r).1 h)) x s3
    refine star_imp (fun h => (R.blk 0 h).1) (star_group fun r hr => ?_) x s4 (H := [_, _, _] ++ [_])
    refine Whole.of (m0, m1) trivial r ?_
    refine star_imp (fun h hh => ?_) (star_imp (mp_one) (star_imp (mp_none keySk) fun _ h => h)) r hr
    obtain ⟨ob, ⟨us, h1, rfl⟩, rfl⟩ := hh
    have h2 : All2 (SvD PH.emp ψ) [Run.M 0, Run.M 1] [.map (some m0), .map (some m1)] := .cons ⟨_, _, d0, rfl⟩ (.cons ⟨_, _, d1, rfl⟩ .nil)
    rw [svs_fun (by kernel_rfl) h1 h2]
    rfl
theorem repbook_spec (F : PH) : Spec Tryz.prog 6 [] F [] fun u F' H' => F = F' ∧ ∃ φ kb κ, φ 2 = some (kb, κ) ∧ (∀ n, 3 ≤ n → φ n = none) ∧ u = ptr kb ∧ H' = [Obs φ (hpT bookH).get] := by
  have hno : bookH.all (fun p => !(Nat.beq p.1 1000000)) = true := by kernel_rfl
  refine Spec.pre (K := [Obs (fun _ => none) (hpT []).get]) (fun r hr => ⟨PH.emp, PH.emp, ⟨(fun n o e => by cases e), (fun n m o o' b κ κ' e => by cases e), fun b ob e => by cases e⟩, rfl, PH.dj_emp _, by rw [hr]; exact (PH.un_emp _).symm⟩) ?_
  refine Spec.fold (rk_spec (f := 6) (fn := Tryz.f6) (by kernel_rfl) rfl book_run (ks := [2]) (fun q hq => ?_) (by kernel_rfl) (by kernel_rfl) (fun _ _ => rfl) .nil (by kernel_rfl) (fun n hn => ?_) F) fun v G H' hG hQ => ?_
  · have := List.all_eq_true.1 hno _ hq
    cases this
  · cases List.mem_singleton.1 hn; exact .inr (.head _)
  · obtain ⟨rfl, φ, hle, hφ, ⟨kb, κ, h2, rfl⟩, _, rfl⟩ := hQ
    exact ⟨_, ⟨rfl, φ, kb, κ, h2, hφ, rfl, rfl⟩, fun r h => h⟩
end Go.Proofs.YtjjjckmpkldgnaaGreatDoor.Rk
