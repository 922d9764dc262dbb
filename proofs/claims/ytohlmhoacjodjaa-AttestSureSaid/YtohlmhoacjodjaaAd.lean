/-
  Whoever tells digests, by what it knows; halves, pairs, and the root of leaves. Conditions are typed with each.
  The root of leaves. Conditions are typed with each.
-/
import Derived.Test.YtohlmhoacjodjaaAc
import Derived.Test.YtohlmhoacjodjaaLf
import Derived.Test.YtohlmhoacjodjaaKs
namespace Go.Proofs.Ytohlmhoacjodjaa
open Go.RowKit
set_option maxRecDepth 100000
theorem Upd.app {A A' : Asrt} {H H' : List Asrt} : ∀ (K : List Asrt), Upd A A' H H' → Upd A A' (K ++ H) (K ++ H')
  | [], h => h
  | _ :: K, h => .there (Upd.app K h)
theorem Pick.app {A : Asrt} {H H' : List Asrt} : ∀ (K : List Asrt), Pick A H H' → Pick A (K ++ H) (K ++ H')
  | [], h => h
  | _ :: K, h => .there (Pick.app K h)
theorem Sat.out1 {F : PH} {B : Asrt} {K X : List Asrt} {w : World} (s : Sat F (K ++ B :: X) w) : Sat F (K ++ X) w := (Sat.front (A := K) (B := [B]) (C := X) s).drop
theorem Sat.two2 {F : PH} {A B : Asrt} {H : List Asrt} {w : World} (s : Sat F (A :: B :: H) w) : Sat F [A, B] w := by
  obtain ⟨r, _, _, s', _⟩ := Sat.split (H := [A, B]) (K := H) s
  exact s'.mono (PH.le_l _ _)
theorem Sat.bring {F : PH} {B : Asrt} {K X : List Asrt} {w : World} (s : Sat F (K ++ B :: X) w) : Sat F (B :: (K ++ X)) w := Sat.front (A := K) (B := [B]) (C := X) s
theorem Sat.send {F : PH} {B : Asrt} {K X : List Asrt} {w : World} (s : Sat F (B :: (K ++ X)) w) : Sat F (K ++ B :: X) w := Sat.front (A := [B]) (B := K) (C := X) s
def tyByt : Ty Try.prog 36 (List UInt8) := tyBytes Try.underlying36 Try.underlying5 (by kernel_rfl)
/-- Whoever tells digests. -/
structure Cry where
  σ : Type
  t : TypeId
  rv : Value
  f : FuncId
  mr : MethR Try.prog t rv "Digest" f
  mn : MethN Try.prog t rv "Digest"
  A : σ → List Asrt
  dg : σ → Int → List UInt8 → List UInt8 × σ
  room : σ → Nat
  len32 : ∀ s k x, (dg s k x).1.length = 32
  grow : ∀ s k x, room (dg s k x).2 ≤ room s + 1
  spec : ∀ (s : σ) (k : Int) (x : List UInt8) (v : Value) (F : PH), 0 ≤ k ∧ k < 256 → room s ≤ 90000 → x.length ≤ 100000 → Byt F v x → Spec Try.prog f [rv, .int .i64 k, v] F (A s) fun u _ H' => u = .agg (u8s (dg s k x).1).toArray ∧ H' = A (dg s k x).2
abbrev Cry.v (C : Cry) : Value := .iface C.t C.rv
def halfP (n : Nat) : Nat := 2 ^ (n - 1).log2
theorem halfP_lt {n : Nat} (h : 2 ≤ n) : 0 < halfP n ∧ halfP n < n := by
  have h1 := Nat.log2_self_le (n := n - 1) (by omega)
  exact ⟨Nat.two_pow_pos _, by unfold halfP; omega⟩
theorem half_at {n j : Nat} (h1 : 2 ^ j < n) (h2 : n ≤ 2 * 2 ^ j) : halfP n = 2 ^ j := by
  unfold halfP
  have e : (n - 1).log2 = j := (Nat.log2_eq_iff (by omega)).2 ⟨by omega, by rw [Nat.pow_succ]; omega⟩
  rw [e]
theorem half_spec (n : Nat) (F : PH) (h2 : 2 ≤ n) (hn : n ≤ 2097152) : Pure Try.prog 25 [.int .i64 n] F (.int .i64 (halfP n)) := by
  refine Spec.of1 Try.func25 rfl rfl fun X w0 => ?_
  repeat (first|refine zJ rfl rfl ?_|refine jr rfl ?_|refine jn ?_|refine zM rfl rfl ?_|(refine zC rfl rfl ?_ rfl ?_;omega)|(refine zD rfl rfl ?_ rfl ?_;omega)|(refine zP rfl ?_ rfl ?_;omega)|refine zG rfl rfl rfl rfl ?_|(refine jdq rfl rfl ?_ ?_ ?_;kernel_rfl;kernel_rfl)|refine zB rfl rfl rfl (by repeat constructor) rfl ?_|refine zH .here rfl rfl rfl rfl ?_|refine zH (.there .here) rfl rfl rfl rfl ?_|refine zH (.there (.there .here)) rfl rfl rfl rfl ?_)
  refine J_loop (ι := Nat) (fun j => 2 ^ j < n) (fun j => n - 2 ^ j) (fun j => [(0, .int .i64 n), (3, .int .i64 ((2 ^ j : Nat) : Int))]) (fun _ => F) (fun _ => X) 0 (by omega) ⟨⟨rfl, rfl, trivial⟩, fun _ s => s⟩ ?_
  intro j hj
  have hs : ((2 ^ (j + 1) : Nat) : Int) = ((2 ^ j : Nat) : Int) * 2 := by rw [Nat.pow_succ]; push_cast; omega
  have hp := Nat.two_pow_pos j
  generalize hq : 2 ^ j = q at *
  have hw : IntKind.i64.wrap ((q : Int) * 2 ^ (min 1 IntKind.i64.bits)) = (q : Int) * 2 := by
    rw [show (2 : Int) ^ (min 1 IntKind.i64.bits) = 2 from rfl]
    exact wrap_in (show InK .i64 _ from ⟨by omega, by omega⟩)
  by_cases hlt : 2 * q < n
  · repeat (first|refine zJ rfl rfl ?_|refine jr rfl ?_|refine jn ?_|refine zM rfl rfl ?_|(refine zC rfl rfl ?_ rfl ?_;omega)|(refine zD rfl rfl ?_ rfl ?_;omega)|(refine zP rfl ?_ rfl ?_;omega)|refine zG rfl rfl rfl rfl ?_|(refine jdq rfl rfl ?_ ?_ ?_;kernel_rfl;kernel_rfl)|refine zB rfl rfl rfl (by repeat constructor) rfl ?_|refine zH .here rfl rfl rfl rfl ?_|refine zH (.there .here) rfl rfl rfl rfl ?_|refine zH (.there (.there .here)) rfl rfl rfl rfl ?_)
    refine oS (ev_shl rfl rfl hw) rfl ?_
    repeat (first|refine zJ rfl rfl ?_|refine jr rfl ?_|refine jn ?_|refine zM rfl rfl ?_|(refine zC rfl rfl ?_ rfl ?_;omega)|(refine zD rfl rfl ?_ rfl ?_;omega)|(refine zP rfl ?_ rfl ?_;omega)|refine zG rfl rfl rfl rfl ?_|(refine jdq rfl rfl ?_ ?_ ?_;kernel_rfl;kernel_rfl)|refine zB rfl rfl rfl (by repeat constructor) rfl ?_|refine zH .here rfl rfl rfl rfl ?_|refine zH (.there .here) rfl rfl rfl rfl ?_|refine zH (.there (.there .here)) rfl rfl rfl rfl ?_)
    refine oS (ev_shl rfl rfl hw) rfl ?_
    repeat (first|refine zJ rfl rfl ?_|refine jr rfl ?_|refine jn ?_|refine zM rfl rfl ?_|(refine zC rfl rfl ?_ rfl ?_;omega)|(refine zD rfl rfl ?_ rfl ?_;omega)|(refine zP rfl ?_ rfl ?_;omega)|refine zG rfl rfl rfl rfl ?_|(refine jdq rfl rfl ?_ ?_ ?_;kernel_rfl;kernel_rfl)|refine zB rfl rfl rfl (by repeat constructor) rfl ?_|refine zH .here rfl rfl rfl rfl ?_|refine zH (.there .here) rfl rfl rfl rfl ?_|refine zH (.there (.there .here)) rfl rfl rfl rfl ?_)
    refine J_again (j + 1) (by rw [Nat.pow_succ, hq]; omega) (by rw [Nat.pow_succ, hq]; omega) ⟨⟨rfl, by rw [hs]; rfl, trivial⟩, fun w s => s⟩
  · have he := half_at (n := n) (j := j) (by rw [hq]; exact hj) (by rw [hq]; omega)
    rw [he, hq]
    repeat (first|refine zJ rfl rfl ?_|refine jr rfl ?_|refine jn ?_|refine zM rfl rfl ?_|(refine zC rfl rfl ?_ rfl ?_;omega)|(refine zD rfl rfl ?_ rfl ?_;omega)|(refine zP rfl ?_ rfl ?_;omega)|refine zG rfl rfl rfl rfl ?_|(refine jdq rfl rfl ?_ ?_ ?_;kernel_rfl;kernel_rfl)|refine zB rfl rfl rfl (by repeat constructor) rfl ?_|refine zH .here rfl rfl rfl rfl ?_|refine zH (.there .here) rfl rfl rfl rfl ?_|refine zH (.there (.there .here)) rfl rfl rfl rfl ?_)
    refine oS (ev_shl rfl rfl hw) rfl ?_
    repeat (first|refine zJ rfl rfl ?_|refine jr rfl ?_|refine jn ?_|refine zM rfl rfl ?_|(refine zC rfl rfl ?_ rfl ?_;omega)|(refine zD rfl rfl ?_ rfl ?_;omega)|(refine zP rfl ?_ rfl ?_;omega)|refine zG rfl rfl rfl rfl ?_|(refine jdq rfl rfl ?_ ?_ ?_;kernel_rfl;kernel_rfl)|refine zB rfl rfl rfl (by repeat constructor) rfl ?_|refine zH .here rfl rfl rfl rfl ?_|refine zH (.there .here) rfl rfl rfl rfl ?_|refine zH (.there (.there .here)) rfl rfl rfl rfl ?_)
    exact J_ret1 rfl rfl [] rfl (PH.ler _) ⟨rfl, rfl⟩
theorem left_spec (n : Nat) (F : PH) (h2 : 2 ≤ n) (hn : n ≤ 2097152) : Pure Try.prog 28 [.int .i64 n] F (.int .i64 (halfP n)) := by
  refine Spec.of1 Try.func28 rfl rfl fun X w0 => ?_
  repeat (first|refine zJ rfl rfl ?_|refine jr rfl ?_|refine jn ?_|refine zM rfl rfl ?_|(refine zC rfl rfl ?_ rfl ?_;omega)|(refine zD rfl rfl ?_ rfl ?_;omega)|(refine zP rfl ?_ rfl ?_;omega)|refine zG rfl rfl rfl rfl ?_|(refine jdq rfl rfl ?_ ?_ ?_;kernel_rfl;kernel_rfl)|refine zB rfl rfl rfl (by repeat constructor) rfl ?_|refine zH .here rfl rfl rfl rfl ?_|refine zH (.there .here) rfl rfl rfl rfl ?_|refine zH (.there (.there .here)) rfl rfl rfl rfl ?_)
  refine J_loop (ι := Nat) (fun j => 2 ^ j < n) (fun j => n - 2 ^ j) (fun j => [(0, .int .i64 n), (3, .int .i64 ((2 ^ j : Nat) : Int))]) (fun _ => F) (fun _ => X) 0 (by omega) ⟨⟨rfl, rfl, trivial⟩, fun _ s => s⟩ ?_
  intro j hj
  have hs : ((2 ^ (j + 1) : Nat) : Int) = 2 * ((2 ^ j : Nat) : Int) := by rw [Nat.pow_succ]; push_cast; omega
  have hp := Nat.two_pow_pos j
  generalize hq : 2 ^ j = q at *
  by_cases hlt : 2 * q < n
  · repeat (first|refine zJ rfl rfl ?_|refine jr rfl ?_|refine jn ?_|refine zM rfl rfl ?_|(refine zC rfl rfl ?_ rfl ?_;omega)|(refine zD rfl rfl ?_ rfl ?_;omega)|(refine zP rfl ?_ rfl ?_;omega)|refine zG rfl rfl rfl rfl ?_|(refine jdq rfl rfl ?_ ?_ ?_;kernel_rfl;kernel_rfl)|refine zB rfl rfl rfl (by repeat constructor) rfl ?_|refine zH .here rfl rfl rfl rfl ?_|refine zH (.there .here) rfl rfl rfl rfl ?_|refine zH (.there (.there .here)) rfl rfl rfl rfl ?_)
    refine J_again (j + 1) (by rw [Nat.pow_succ, hq]; omega) (by rw [Nat.pow_succ, hq]; omega) ⟨⟨rfl, by rw [hs]; rfl, trivial⟩, fun w s => s⟩
  · have he := half_at (n := n) (j := j) (by rw [hq]; exact hj) (by rw [hq]; omega)
    rw [he, hq]
    repeat (first|refine zJ rfl rfl ?_|refine jr rfl ?_|refine jn ?_|refine zM rfl rfl ?_|(refine zC rfl rfl ?_ rfl ?_;omega)|(refine zD rfl rfl ?_ rfl ?_;omega)|(refine zP rfl ?_ rfl ?_;omega)|refine zG rfl rfl rfl rfl ?_|(refine jdq rfl rfl ?_ ?_ ?_;kernel_rfl;kernel_rfl)|refine zB rfl rfl rfl (by repeat constructor) rfl ?_|refine zH .here rfl rfl rfl rfl ?_|refine zH (.there .here) rfl rfl rfl rfl ?_|refine zH (.there (.there .here)) rfl rfl rfl rfl ?_)
    exact J_ret1 rfl rfl [] rfl (PH.ler _) ⟨rfl, rfl⟩
def zd32 : List UInt8 := List.replicate 32 0
theorem zd32_cs : (u8s zd32).length = 32 := rfl
set_option maxHeartbeats 4000000 in
theorem leaf_spec (C : Cry) (s : C.σ) (x : List UInt8) (v : Value) (F : PH) (hr : C.room s ≤ 90000) (hx : x.length ≤ 100000) (h : Byt F v x) : Spec Try.prog 24 [C.v, v] F (C.A s) fun u _ H' => u = .agg (u8s (C.dg s 105 x).1).toArray ∧ H' = C.A (C.dg s 105 x).2 := by
  have h32 : (u8s (C.dg s 105 x).1).length = 32 := by rw [u8s_len, C.len32]
  obtain ⟨_, a, c, rfl, hc, _⟩ := id h
  refine Spec.of2 Try.func24 rfl rfl fun X w0 => ?_
  repeat (first|refine zJ rfl rfl ?_|refine jr rfl ?_|refine jn ?_|refine zM rfl rfl ?_|(refine zC rfl rfl ?_ rfl ?_;omega)|(refine zD rfl rfl ?_ rfl ?_;omega)|(refine zP rfl ?_ rfl ?_;omega)|refine zG rfl rfl rfl rfl ?_|(refine jdq rfl rfl ?_ ?_ ?_;kernel_rfl;kernel_rfl)|refine zB rfl rfl rfl (by repeat constructor) rfl ?_|refine zH .here rfl rfl rfl rfl ?_|refine zH (.there .here) rfl rfl rfl rfl ?_|refine zH (.there (.there .here)) rfl rfl rfl rfl ?_)
  refine oE (ev_alloc (E := 28) (cs := u8s zd32) (by kernel_rfl)) rfl ?_
  rintro _ _ _ _ ⟨rfl, b4, rfl, rfl⟩
  repeat (first|refine zJ rfl rfl ?_|refine jr rfl ?_|refine jn ?_|refine zM rfl rfl ?_|(refine zC rfl rfl ?_ rfl ?_;omega)|(refine zD rfl rfl ?_ rfl ?_;omega)|(refine zP rfl ?_ rfl ?_;omega)|refine zG rfl rfl rfl rfl ?_|(refine jdq rfl rfl ?_ ?_ ?_;kernel_rfl;kernel_rfl)|refine zB rfl rfl rfl (by repeat constructor) rfl ?_|refine zH .here rfl rfl rfl rfl ?_|refine zH (.there .here) rfl rfl rfl rfl ?_|refine zH (.there (.there .here)) rfl rfl rfl rfl ?_)
  refine oI (Hc := C.A s) (Hr := blk b4 28 (u8s zd32) :: X) rfl C.mr (C.spec s 105 x _ F (by decide) hr hx h) rfl rfl (fun w t => t.front (A := [_])) ?_
  rintro _ F1 _ hF1 ⟨rfl, rfl⟩
  refine oN (ev_store (b := b4) rfl rfl .agg rfl h32 (lay_all (zs := u8s zd32) (by rw [h32]; rfl)) (u8s_ones _) (Upd.app _ .here)) rfl ?_
  rintro _ _ _ _ ⟨rfl, _, rfl⟩
  repeat (first|refine zJ rfl rfl ?_|refine jr rfl ?_|refine jn ?_|refine zM rfl rfl ?_|(refine zC rfl rfl ?_ rfl ?_;omega)|(refine zD rfl rfl ?_ rfl ?_;omega)|(refine zP rfl ?_ rfl ?_;omega)|refine zG rfl rfl rfl rfl ?_|(refine jdq rfl rfl ?_ ?_ ?_;kernel_rfl;kernel_rfl)|refine zB rfl rfl rfl (by repeat constructor) rfl ?_|refine zH .here rfl rfl rfl rfl ?_|refine zH (.there .here) rfl rfl rfl rfl ?_|refine zH (.there (.there .here)) rfl rfl rfl rfl ?_)
  exact J_retv (vs := [.agg (u8s (C.dg s 105 x).1).toArray]) rfl (.agg rfl rfl (Rdb.ofB (n := 0) (Pick.app _ .here) (by rw [List.drop_zero, List.take_length])) h32 .nil) (C.A (C.dg s 105 x).2) (fun w s => s.out1) hF1 ⟨rfl, rfl⟩
def pairD (C : Cry) (s : C.σ) (a b : List UInt8) : List UInt8 × C.σ := C.dg s 106 (a ++ b)
set_option maxHeartbeats 8000000 in
theorem pair_spec (C : Cry) (s : C.σ) (x y : List UInt8) (F : PH) (hr : C.room s ≤ 90000) (hx : x.length = 32) (hy : y.length = 32) : Spec Try.prog 26 [C.v, .agg (u8s x).toArray, .agg (u8s y).toArray] F (C.A s) fun u _ H' => u = .agg (u8s (pairD C s x y).1).toArray ∧ H' = C.A (pairD C s x y).2 := by
  have h32 : (u8s (pairD C s x y).1).length = 32 := by rw [u8s_len]; exact C.len32 _ _ _
  have hx8 : (u8s x).length = 32 := by rw [u8s_len, hx]
  have hy8 : (u8s y).length = 32 := by rw [u8s_len, hy]
  refine Spec.of3 Try.func26 rfl rfl fun X w0 => ?_
  repeat (first|refine zJ rfl rfl ?_|refine jr rfl ?_|refine jn ?_|refine zM rfl rfl ?_|(refine zC rfl rfl ?_ rfl ?_;omega)|(refine zD rfl rfl ?_ rfl ?_;omega)|(refine zP rfl ?_ rfl ?_;omega)|refine zG rfl rfl rfl rfl ?_|(refine jdq rfl rfl ?_ ?_ ?_;kernel_rfl;kernel_rfl)|refine zB rfl rfl rfl (by repeat constructor) rfl ?_|refine zH .here rfl rfl rfl rfl ?_|refine zH (.there .here) rfl rfl rfl rfl ?_|refine zH (.there (.there .here)) rfl rfl rfl rfl ?_)
  refine oE (ev_box rfl .agg) rfl ?_; rintro _ _ _ _ ⟨rfl, b4, rfl, rfl⟩
  refine oE (ev_box rfl .agg) rfl ?_; rintro _ _ _ _ ⟨rfl, b5, rfl, rfl⟩
  refine oE (ev_alloc (E := 28) (cs := u8s zd32) (by kernel_rfl)) rfl ?_
  rintro _ _ _ _ ⟨rfl, b6, rfl, rfl⟩
  refine oW (H' := blk b5 28 (u8s y) :: blk b4 28 (u8s x) :: blk b6 28 (u8s zd32) :: (C.A s ++ X)) ?_ (fun w t => t.pm 3 [1, 2, 0] rfl rfl)
  repeat (first|refine zJ rfl rfl ?_|refine jr rfl ?_|refine jn ?_|refine zM rfl rfl ?_|(refine zC rfl rfl ?_ rfl ?_;omega)|(refine zD rfl rfl ?_ rfl ?_;omega)|(refine zP rfl ?_ rfl ?_;omega)|refine zG rfl rfl rfl rfl ?_|(refine jdq rfl rfl ?_ ?_ ?_;kernel_rfl;kernel_rfl)|refine zB rfl rfl rfl (by repeat constructor) rfl ?_|refine zH .here rfl rfl rfl rfl ?_|refine zH (.there .here) rfl rfl rfl rfl ?_|refine zH (.there (.there .here)) rfl rfl rfl rfl ?_)
  refine ja F [blk b5 28 (u8s y), blk b4 28 (u8s x)] ?_ (fun w t => t.two2) ?_; kernel_rfl
  refine aT 0 rfl (ev_qe rfl) rfl rfl ?_ ?_ ?_ ?_; kernel_rfl; kernel_rfl; kernel_rfl
  refine aT 2 rfl (ev_slice_arr (b := b4) rfl rfl) rfl rfl ?_ ?_ ?_ ?_; kernel_rfl; kernel_rfl; kernel_rfl
  refine aT 4 rfl (ev_slice_arr (b := b5) rfl rfl) rfl rfl ?_ ?_ ?_ ?_; kernel_rfl; kernel_rfl; kernel_rfl
  refine aT 6 rfl (ev_makeMethod rfl) rfl rfl ?_ ?_ ?_ ?_; kernel_rfl; kernel_rfl; kernel_rfl
  refine aT 7 rfl (ev_nilCheckM rfl C.mn) rfl rfl ?_ ?_ ?_ ?_; kernel_rfl; kernel_rfl; kernel_rfl
  refine aT 8 rfl (ev_qe rfl) rfl rfl ?_ ?_ ?_ ?_; kernel_rfl; kernel_rfl; kernel_rfl
  refine aB (i := 1) (by kernel_rfl) (aE rfl (eb_empty) rfl rfl (fun _ _ _ hF hq w t => by obtain ⟨rfl, _, rfl⟩ := hq; exact t.drop.two2) ?_)
  rintro u0 _ _ _ ⟨rfl, ⟨b0, rfl⟩, rfl⟩
  have r4 : ∀ {b : Nat} {z : List UInt8} {F : PH} {H Hr : List Asrt}, z.length = 32 → Pick (blk b 28 (u8s z)) H Hr → RdB F H (.slice (some ⟨b, 0, none⟩) 32 32) z := fun hz p => by
    unfold RdB
    rw [hz]
    exact RdS.blk p (by rw [u8s_len, hz]) (by rw [List.drop_zero, List.take_length]) (Nat.le_refl _)
  refine aB (i := 3) (by kernel_rfl) (aE rfl (eb_append (bs := []) (cs := x) (K := fun v' => bytes v' ([] ++ x) :: blk b5 28 (u8s y) :: blk b4 28 (u8s x) :: blk b6 28 (u8s zd32) :: (C.A s ++ X)) rfl rfl (r4 hx (.there (.there .here))) (by rw [hx]; decide) (fun v' => .here)) rfl rfl (fun _ _ _ hF hq w t => by obtain ⟨rfl, _, rfl⟩ := hq; exact t.drop.two2) ?_)
  rintro u1 _ _ _ ⟨rfl, _, rfl⟩
  refine aB (i := 5) (by kernel_rfl) (aE rfl (eb_append (bs := [] ++ x) (cs := y) (K := fun v' => bytes v' ([] ++ x ++ y) :: blk b5 28 (u8s y) :: blk b4 28 (u8s x) :: blk b6 28 (u8s zd32) :: (C.A s ++ X)) rfl rfl (r4 hy (.there .here)) (by rw [List.nil_append, hx, hy]; decide) (fun v' => .here)) rfl rfl (fun _ _ _ hF hq w t => by obtain ⟨rfl, _, rfl⟩ := hq; exact t.drop.two2) ?_)
  rintro u2 _ _ _ ⟨rfl, _, rfl⟩
  rw [List.nil_append]
  refine aPersist fun hh hA hd => ?_
  have hb := own_slice hA hd
  have hF1 := PH.le_l F hh
  generalize F.un hh = F1 at *
  refine aB (i := 9) (by kernel_rfl) (aI (Hc := C.A s) (Hr := blk b5 28 (u8s y) :: blk b4 28 (u8s x) :: blk b6 28 (u8s zd32) :: X) rfl rfl C.mr (C.spec s 106 (x ++ y) _ F1 (by decide) hr (by rw [List.length_append]; omega) hb) rfl rfl rfl (fun w t => Sat.front (A := [_, _, _]) (B := C.A s) (C := X) t) (fun _ _ _ hF hq w t => by obtain ⟨rfl, rfl⟩ := hq; exact ((Sat.front (B := [_, _, _]) t).two2).mono (hF1.trans hF)) ?_)
  rintro _ F2 _ hF2 ⟨rfl, rfl⟩
  refine aB (i := 10) (by kernel_rfl) (aN rfl (ev_store (b := b6) (vs := u8s (pairD C s x y).1) rfl rfl .agg rfl h32 (lay_all (zs := u8s zd32) (by rw [h32]; rfl)) (u8s_ones _) (Upd.app _ (.there (.there .here)))) rfl (fun _ _ _ hF hq w t => by obtain ⟨rfl, _, rfl⟩ := hq; exact ((Sat.front (B := [_, _, _]) t).two2).mono (hF1.trans hF2)) ?_)
  rintro _ _ _ _ ⟨rfl, _, rfl⟩
  refine aD (by kernel_rfl) ?_
  repeat (first|refine zJ rfl rfl ?_|refine jr rfl ?_|refine jn ?_|refine zM rfl rfl ?_|(refine zC rfl rfl ?_ rfl ?_;omega)|(refine zD rfl rfl ?_ rfl ?_;omega)|(refine zP rfl ?_ rfl ?_;omega)|refine zG rfl rfl rfl rfl ?_|(refine jdq rfl rfl ?_ ?_ ?_;kernel_rfl;kernel_rfl)|refine zB rfl rfl rfl (by repeat constructor) rfl ?_|refine zH .here rfl rfl rfl rfl ?_|refine zH (.there .here) rfl rfl rfl rfl ?_|refine zH (.there (.there .here)) rfl rfl rfl rfl ?_)
  exact J_retv (vs := [.agg (u8s (pairD C s x y).1).toArray]) rfl (.agg rfl rfl (Rdb.ofB (n := 0) (Pick.app _ (.there (.there .here))) (by rw [List.drop_zero, List.take_length])) h32 .nil) (C.A (pairD C s x y).2) (fun w s => (Sat.front (B := [_, _, _]) s).drop.drop.drop) (hF1.trans hF2) ⟨rfl, rfl⟩
end Go.Proofs.Ytohlmhoacjodjaa
namespace Go.Proofs.Ytohlmhoacjodjaa
open Go.RowKit
set_option maxRecDepth 100000
/-! rows cut -/
theorem All2.take {α β : Type} {R : α → β → Prop} {xs : List α} {ys : List β} (h : All2 R xs ys) : ∀ n, All2 R (xs.take n) (ys.take n) := by
  induction h with
  | nil => intro n; rw [List.take_nil, List.take_nil]; exact .nil
  | cons h _ ih =>
    intro n
    cases n with
    | zero => exact .nil
    | succ n => exact .cons h (ih n)
theorem All2.drop {α β : Type} {R : α → β → Prop} {xs : List α} {ys : List β} (h : All2 R xs ys) : ∀ n, All2 R (xs.drop n) (ys.drop n) := by
  induction h with
  | nil => intro n; rw [List.drop_nil, List.drop_nil]; exact .nil
  | cons h t ih =>
    intro n
    cases n with
    | zero => exact .cons h t
    | succ n => exact ih n
theorem RowV.pre {P : Program} {e : TypeId} {α : Type} {te : Ty P e α} {F : PH} {a : Option Addr} {n c : Nat} {xs : List α} (h : RowV te F (.slice a n c) xs) (i : Nat) (hi : i ≤ n) : RowV te F (.slice a i c) (xs.take i) := by
  obtain ⟨css, h1, h2⟩ := h
  obtain ⟨hl, a', c', e', hc, h0⟩ := id h1
  cases e'
  have hlen : ∀ c ∈ css, c.length = te.sz := fun c hc => by
    obtain ⟨x, _, hx⟩ := h2.right c hc
    exact te.len hx
  refine ⟨css.take i, ?_, h2.take i⟩
  have := SliceV.pre h1 hlen hi (h2.len1.symm)
  rwa [List.length_take, Nat.min_eq_left hi]
theorem RowV.suf {P : Program} {e : TypeId} {α : Type} {te : Ty P e α} {F : PH} {a : Option Addr} {n c : Nat} {xs : List α} (h : RowV te F (.slice a n c) xs) (i : Nat) (hi : i ≤ n) (hc : n ≤ c) : RowV te F (cutV a te.sz c i n c) (xs.drop i) := by
  obtain ⟨css, h1, h2⟩ := h
  obtain ⟨hl, a', c', e', _, h0⟩ := id h1
  cases e'
  have hlen : ∀ c ∈ css, c.length = te.sz := fun c hc => by
    obtain ⟨x, _, hx⟩ := h2.right c hc
    exact te.len hx
  refine ⟨css.drop i, ?_, h2.drop i⟩
  have := SliceV.cut h1 hi (Nat.le_refl _) hc
  rw [flat_drop i hlen, List.take_of_length_le (by rw [flat_len (fun c hc => hlen c (List.mem_of_mem_drop hc)), List.length_drop, ← h2.len1]; exact Nat.le_refl _)] at this
  rwa [List.length_drop]
/-! the root -/
def rootF (C : Cry) : Nat → C.σ → List (List UInt8) → List UInt8 × C.σ
  | 0, s, _ => ([], s)
  | n + 1, s, l =>
    if l.length = 0 then C.dg s 107 []
    else if l.length = 1 then C.dg s 105 (l.getD 0 [])
    else
      let p := rootF C n s (l.take (halfP l.length))
      let q := rootF C n p.2 (l.drop (halfP l.length))
      pairD C q.2 p.1 q.1
theorem rootF_fuel (C : Cry) : ∀ (n m : Nat) (s : C.σ) (l : List (List UInt8)), l.length < n → l.length < m → rootF C n s l = rootF C m s l
  | 0, _, _, _, h, _ => absurd h (Nat.not_lt_zero _)
  | _ + 1, 0, _, _, _, h => absurd h (Nat.not_lt_zero _)
  | n + 1, m + 1, s, l, h1, h2 => by
    unfold rootF
    by_cases h0 : l.length = 0
    · rw [if_pos h0, if_pos h0]
    · rw [if_neg h0, if_neg h0]
      by_cases h01 : l.length = 1
      · rw [if_pos h01, if_pos h01]
      · rw [if_neg h01, if_neg h01]
        obtain ⟨hp, hl⟩ := halfP_lt (n := l.length) (by omega)
        have e1 := rootF_fuel C n m s (l.take (halfP l.length)) (by rw [List.length_take]; omega) (by rw [List.length_take]; omega)
        dsimp only
        rw [e1]
        rw [rootF_fuel C n m _ (l.drop (halfP l.length)) (by rw [List.length_drop]; omega) (by rw [List.length_drop]; omega)]
def rootP (C : Cry) (s : C.σ) (l : List (List UInt8)) : List UInt8 × C.σ := rootF C (l.length + 1) s l
theorem rootP_0 (C : Cry) (s : C.σ) : rootP C s [] = C.dg s 107 [] := rfl
theorem rootP_1 (C : Cry) (s : C.σ) (x : List UInt8) : rootP C s [x] = C.dg s 105 x := rfl
theorem rootP_2 (C : Cry) (s : C.σ) (l : List (List UInt8)) (h : 2 ≤ l.length) : rootP C s l = pairD C (rootP C (rootP C s (l.take (halfP l.length))).2 (l.drop (halfP l.length))).2 (rootP C s (l.take (halfP l.length))).1 (rootP C (rootP C s (l.take (halfP l.length))).2 (l.drop (halfP l.length))).1 := by
  obtain ⟨hp, hl⟩ := halfP_lt h
  have e1 := rootF_fuel C l.length ((l.take (halfP l.length)).length + 1) s (l.take (halfP l.length)) (by rw [List.length_take]; omega) (by omega)
  have e2 := fun s => rootF_fuel C l.length ((l.drop (halfP l.length)).length + 1) s (l.drop (halfP l.length)) (by rw [List.length_drop]; omega) (by omega)
  unfold rootP
  rw [show rootF C (l.length + 1) s l = pairD C (rootF C l.length (rootF C l.length s (l.take (halfP l.length))).2 (l.drop (halfP l.length))).2 (rootF C l.length s (l.take (halfP l.length))).1 (rootF C l.length (rootF C l.length s (l.take (halfP l.length))).2 (l.drop (halfP l.length))).1 from by
    show (if l.length = 0 then _ else if l.length = 1 then _ else _) = _
    rw [if_neg (by omega), if_neg (by omega)]]
  rw [e1, e2]
theorem rootP_len (C : Cry) (s : C.σ) (l : List (List UInt8)) : (rootP C s l).1.length = 32 := by
  match l with
  | [] => exact C.len32 _ _ _
  | [x] => exact C.len32 _ _ _
  | x :: y :: r => rw [rootP_2 C s _ (by simp)]; exact C.len32 _ _ _
theorem rootP_room (C : Cry) : ∀ (n : Nat) (s : C.σ) (l : List (List UInt8)), l.length ≤ n → C.room (rootP C s l).2 + 1 ≤ C.room s + 2 * l.length + (if l.length = 0 then 2 else 0)
  | 0, s, l, h => by
    obtain rfl := List.eq_nil_of_length_eq_zero (by omega : l.length = 0)
    have := C.grow s 107 []
    rw [rootP_0]
    simp only [List.length_nil, if_true]
    omega
  | n + 1, s, l, h => by
    match l with
    | [] =>
      have := C.grow s 107 []
      rw [rootP_0]
      simp only [List.length_nil, if_true]
      omega
    | [x] =>
      have := C.grow s 105 x
      rw [rootP_1]
      simp only [List.length_singleton]
      omega
    | x :: y :: r =>
      obtain ⟨hp, hl⟩ := halfP_lt (n := (x :: y :: r).length) (by simp)
      rw [rootP_2 C s _ (by simp)]
      generalize hL : x :: y :: r = L at *
      have a1 := rootP_room C n s (L.take (halfP L.length)) (by rw [List.length_take]; omega)
      have a2 := rootP_room C n (rootP C s (L.take (halfP L.length))).2 (L.drop (halfP L.length)) (by rw [List.length_drop]; omega)
      have a3 := C.grow (rootP C (rootP C s (L.take (halfP L.length))).2 (L.drop (halfP L.length))).2 106 ((rootP C s (L.take (halfP L.length))).1 ++ (rootP C (rootP C s (L.take (halfP L.length))).2 (L.drop (halfP L.length))).1)
      rw [List.length_take, if_neg (by omega)] at a1
      rw [List.length_drop, if_neg (by omega)] at a2
      rw [if_neg (by omega)]
      unfold pairD
      omega
def Small (l : List (List UInt8)) : Prop := ∀ x ∈ l, x.length ≤ 100000
set_option maxHeartbeats 8000000 in
theorem root_spec (C : Cry) : ∀ (n : Nat) (l : List (List UInt8)) (s : C.σ) (v : Value) (F : PH), l.length ≤ n → RowV tyByt F v l → Small l → C.room s + 2 * l.length ≤ 80000 → Spec Try.prog 11 [C.v, v] F (C.A s) fun u _ H' => u = .agg (u8s (rootP C s l).1).toArray ∧ H' = C.A (rootP C s l).2 := by
  intro n
  induction n with
  | zero =>
    intro l s v F hn h hs hr
    have h0 : l.length = 0 := by omega
    obtain rfl := List.eq_nil_of_length_eq_zero h0
    obtain ⟨a, c, rfl, hc⟩ := h.form
    have h32 : (u8s (rootP C s []).1).length = 32 := by rw [u8s_len, rootP_len]
    refine Spec.of2 Try.func11 rfl rfl fun X w0 => ?_
    repeat (first|refine zJ rfl rfl ?_|refine jr rfl ?_|refine jn ?_|refine zM rfl rfl ?_|(refine zC rfl rfl ?_ rfl ?_;omega)|(refine zD rfl rfl ?_ rfl ?_;omega)|(refine zP rfl ?_ rfl ?_;omega)|refine zG rfl rfl rfl rfl ?_|(refine jdq rfl rfl ?_ ?_ ?_;kernel_rfl;kernel_rfl)|refine zB rfl rfl rfl (by repeat constructor) rfl ?_|refine zH .here rfl rfl rfl rfl ?_|refine zH (.there .here) rfl rfl rfl rfl ?_|refine zH (.there (.there .here)) rfl rfl rfl rfl ?_)
    refine oE (ev_alloc (E := 28) (cs := u8s zd32) (by kernel_rfl)) rfl ?_
    rintro _ _ _ _ ⟨rfl, b4, rfl, rfl⟩
    repeat (first|refine zJ rfl rfl ?_|refine jr rfl ?_|refine jn ?_|refine zM rfl rfl ?_|(refine zC rfl rfl ?_ rfl ?_;omega)|(refine zD rfl rfl ?_ rfl ?_;omega)|(refine zP rfl ?_ rfl ?_;omega)|refine zG rfl rfl rfl rfl ?_|(refine jdq rfl rfl ?_ ?_ ?_;kernel_rfl;kernel_rfl)|refine zB rfl rfl rfl (by repeat constructor) rfl ?_|refine zH .here rfl rfl rfl rfl ?_|refine zH (.there .here) rfl rfl rfl rfl ?_|refine zH (.there (.there .here)) rfl rfl rfl rfl ?_)
    refine oI (Hc := C.A s) (Hr := blk b4 28 (u8s zd32) :: X) rfl C.mr (C.spec s 107 [] _ F (by decide) (by omega) (by decide) (SliceV.nil F 1)) rfl rfl (fun w t => t.front (A := [_])) ?_
    rintro _ F1 _ hF1 ⟨rfl, rfl⟩
    refine oN (ev_store (b := b4) (vs := u8s (rootP C s []).1) rfl rfl .agg rfl h32 (lay_all (zs := u8s zd32) (by rw [h32]; rfl)) (u8s_ones _) (Upd.app _ .here)) rfl ?_
    rintro _ _ _ _ ⟨rfl, _, rfl⟩
    repeat (first|refine zJ rfl rfl ?_|refine jr rfl ?_|refine jn ?_|refine zM rfl rfl ?_|(refine zC rfl rfl ?_ rfl ?_;omega)|(refine zD rfl rfl ?_ rfl ?_;omega)|(refine zP rfl ?_ rfl ?_;omega)|refine zG rfl rfl rfl rfl ?_|(refine jdq rfl rfl ?_ ?_ ?_;kernel_rfl;kernel_rfl)|refine zB rfl rfl rfl (by repeat constructor) rfl ?_|refine zH .here rfl rfl rfl rfl ?_|refine zH (.there .here) rfl rfl rfl rfl ?_|refine zH (.there (.there .here)) rfl rfl rfl rfl ?_)
    exact J_retv (vs := [.agg (u8s (rootP C s []).1).toArray]) rfl (.agg rfl rfl (Rdb.ofB (n := 0) (Pick.app _ .here) (by rw [List.drop_zero, List.take_length])) h32 .nil) (C.A (rootP C s []).2) (fun w s => s.out1) hF1 ⟨rfl, rfl⟩
  | succ n ih =>
    intro l s v F hn h hs hr
    by_cases h0 : l.length = 0
    · obtain rfl := List.eq_nil_of_length_eq_zero h0
      exact ih [] s v F (Nat.zero_le _) h hs hr
    by_cases h1 : l.length = 1
    · obtain ⟨x, rfl⟩ := List.length_eq_one_iff.1 h1
      obtain ⟨a, c, rfl, hc⟩ := h.form
      have h32 : (u8s (rootP C s [x]).1).length = 32 := by rw [u8s_len, rootP_len]
      obtain ⟨b1, o1, cs, rfl, hcs, ⟨vx, rfl, hx⟩, _⟩ := h.at (i := 0) rfl
      refine Spec.of2 Try.func11 rfl rfl fun X w0 => ?_
      repeat (first|refine zJ rfl rfl ?_|refine jr rfl ?_|refine jn ?_|refine zM rfl rfl ?_|(refine zC rfl rfl ?_ rfl ?_;omega)|(refine zD rfl rfl ?_ rfl ?_;omega)|(refine zP rfl ?_ rfl ?_;omega)|refine zG rfl rfl rfl rfl ?_|(refine jdq rfl rfl ?_ ?_ ?_;kernel_rfl;kernel_rfl)|refine zB rfl rfl rfl (by repeat constructor) rfl ?_|refine zH .here rfl rfl rfl rfl ?_|refine zH (.there .here) rfl rfl rfl rfl ?_|refine zH (.there (.there .here)) rfl rfl rfl rfl ?_)
      refine oE (ev_alloc (E := 28) (cs := u8s zd32) (by kernel_rfl)) rfl ?_
      rintro _ _ _ _ ⟨rfl, b4, rfl, rfl⟩
      repeat (first|refine zJ rfl rfl ?_|refine jr rfl ?_|refine jn ?_|refine zM rfl rfl ?_|(refine zC rfl rfl ?_ rfl ?_;omega)|(refine zD rfl rfl ?_ rfl ?_;omega)|(refine zP rfl ?_ rfl ?_;omega)|refine zG rfl rfl rfl rfl ?_|(refine jdq rfl rfl ?_ ?_ ?_;kernel_rfl;kernel_rfl)|refine zB rfl rfl rfl (by repeat constructor) rfl ?_|refine zH .here rfl rfl rfl rfl ?_|refine zH (.there .here) rfl rfl rfl rfl ?_|refine zH (.there (.there .here)) rfl rfl rfl rfl ?_)
      refine oS (ev_indexAddr (i := 0) rfl rfl rfl (by simp)) rfl ?_
      refine oS (ev_load (v := vx) rfl rfl (Rdb.ofF hcs)) rfl ?_
      refine oC (Hc := C.A s) (Hr := blk b4 28 (u8s zd32) :: X) (leaf_spec C s x vx F (by omega) (hs x (by simp)) hx) Try.call24 rfl rfl (fun w t => t.front (A := [_])) ?_
      rintro _ F1 _ hF1 ⟨rfl, rfl⟩
      refine oN (ev_store (b := b4) (vs := u8s (rootP C s [x]).1) rfl rfl .agg rfl h32 (lay_all (zs := u8s zd32) (by rw [h32]; rfl)) (u8s_ones _) (Upd.app _ .here)) rfl ?_
      rintro _ _ _ _ ⟨rfl, _, rfl⟩
      repeat (first|refine zJ rfl rfl ?_|refine jr rfl ?_|refine jn ?_|refine zM rfl rfl ?_|(refine zC rfl rfl ?_ rfl ?_;omega)|(refine zD rfl rfl ?_ rfl ?_;omega)|(refine zP rfl ?_ rfl ?_;omega)|refine zG rfl rfl rfl rfl ?_|(refine jdq rfl rfl ?_ ?_ ?_;kernel_rfl;kernel_rfl)|refine zB rfl rfl rfl (by repeat constructor) rfl ?_|refine zH .here rfl rfl rfl rfl ?_|refine zH (.there .here) rfl rfl rfl rfl ?_|refine zH (.there (.there .here)) rfl rfl rfl rfl ?_)
      exact J_retv (vs := [.agg (u8s (rootP C s [x]).1).toArray]) rfl (.agg rfl rfl (Rdb.ofB (n := 0) (Pick.app _ .here) (by rw [List.drop_zero, List.take_length])) h32 .nil) (C.A (rootP C s [x]).2) (fun w s => s.out1) hF1 ⟨rfl, rfl⟩
    · have h2 : 2 ≤ l.length := by omega
      obtain ⟨hp, hl⟩ := halfP_lt h2
      obtain ⟨a, c, rfl, hc⟩ := h.form
      have h32 : (u8s (rootP C s l).1).length = 32 := by rw [u8s_len, rootP_len]
      have hpre := h.pre (halfP l.length) (by omega)
      have hsuf := h.suf (halfP l.length) (by omega) hc
      have e2 := rootP_2 C s l h2
      have hl1 : (l.take (halfP l.length)).length = halfP l.length := by rw [List.length_take]; omega
      have hl2 : (l.drop (halfP l.length)).length = l.length - halfP l.length := by rw [List.length_drop]
      have r1 := rootP_room C _ s (l.take (halfP l.length)) (Nat.le_refl _)
      have r2 := rootP_room C _ (rootP C s (l.take (halfP l.length))).2 (l.drop (halfP l.length)) (Nat.le_refl _)
      rw [hl1, if_neg (by omega)] at r1
      rw [hl2, if_neg (by omega)] at r2
      have n1 := rootP_len C s (l.take (halfP l.length))
      have n2 := rootP_len C (rootP C s (l.take (halfP l.length))).2 (l.drop (halfP l.length))
      have hs1 : Small (l.take (halfP l.length)) := fun x hx => hs x (List.mem_of_mem_take hx)
      have hs2 : Small (l.drop (halfP l.length)) := fun x hx => hs x (List.mem_of_mem_drop hx)
      refine Spec.of2 Try.func11 rfl rfl fun X w0 => ?_
      repeat (first|refine zJ rfl rfl ?_|refine jr rfl ?_|refine jn ?_|refine zM rfl rfl ?_|(refine zC rfl rfl ?_ rfl ?_;omega)|(refine zD rfl rfl ?_ rfl ?_;omega)|(refine zP rfl ?_ rfl ?_;omega)|refine zG rfl rfl rfl rfl ?_|(refine jdq rfl rfl ?_ ?_ ?_;kernel_rfl;kernel_rfl)|refine zB rfl rfl rfl (by repeat constructor) rfl ?_|refine zH .here rfl rfl rfl rfl ?_|refine zH (.there .here) rfl rfl rfl rfl ?_|refine zH (.there (.there .here)) rfl rfl rfl rfl ?_)
      refine oE (ev_alloc (E := 28) (cs := u8s zd32) (by kernel_rfl)) rfl ?_
      rintro _ _ _ _ ⟨rfl, b4, rfl, rfl⟩
      repeat (first|refine zJ rfl rfl ?_|refine jr rfl ?_|refine jn ?_|refine zM rfl rfl ?_|(refine zC rfl rfl ?_ rfl ?_;omega)|(refine zD rfl rfl ?_ rfl ?_;omega)|(refine zP rfl ?_ rfl ?_;omega)|refine zG rfl rfl rfl rfl ?_|(refine jdq rfl rfl ?_ ?_ ?_;kernel_rfl;kernel_rfl)|refine zB rfl rfl rfl (by repeat constructor) rfl ?_|refine zH .here rfl rfl rfl rfl ?_|refine zH (.there .here) rfl rfl rfl rfl ?_|refine zH (.there (.there .here)) rfl rfl rfl rfl ?_)
      refine oP (half_spec l.length F h2 (by omega)) Try.call25 rfl rfl ?_
      repeat (first|refine zJ rfl rfl ?_|refine jr rfl ?_|refine jn ?_|refine zM rfl rfl ?_|(refine zC rfl rfl ?_ rfl ?_;omega)|(refine zD rfl rfl ?_ rfl ?_;omega)|(refine zP rfl ?_ rfl ?_;omega)|refine zG rfl rfl rfl rfl ?_|(refine jdq rfl rfl ?_ ?_ ?_;kernel_rfl;kernel_rfl)|refine zB rfl rfl rfl (by repeat constructor) rfl ?_|refine zH .here rfl rfl rfl rfl ?_|refine zH (.there .here) rfl rfl rfl rfl ?_|refine zH (.there (.there .here)) rfl rfl rfl rfl ?_)
      refine ja F [] ?_ (fun w t => t.bare) ?_; kernel_rfl
      refine aT 0 rfl (ev_qe rfl) rfl rfl ?_ ?_ ?_ ?_; kernel_rfl; kernel_rfl; kernel_rfl
      refine aT 1 rfl (ev_qe rfl) rfl rfl ?_ ?_ ?_ ?_; kernel_rfl; kernel_rfl; kernel_rfl
      refine aT 2 rfl (ev_qe rfl) rfl rfl ?_ ?_ ?_ ?_; kernel_rfl; kernel_rfl; kernel_rfl
      refine aT 3 rfl (ev_qe rfl) rfl rfl ?_ ?_ ?_ ?_; kernel_rfl; kernel_rfl; kernel_rfl
      refine aT 4 rfl (ev_slice_hi (h := halfP l.length) rfl rfl rfl (by omega)) rfl rfl ?_ ?_ ?_ ?_; kernel_rfl; kernel_rfl; kernel_rfl
      refine aT 6 rfl (ev_qe rfl) rfl rfl ?_ ?_ ?_ ?_; kernel_rfl; kernel_rfl; kernel_rfl
      refine aT 7 rfl (ev_qe rfl) rfl rfl ?_ ?_ ?_ ?_; kernel_rfl; kernel_rfl; kernel_rfl
      refine aT 8 rfl (ev_qe rfl) rfl rfl ?_ ?_ ?_ ?_; kernel_rfl; kernel_rfl; kernel_rfl
      refine aT 9 rfl (ev_slice_lo (lo := halfP l.length) rfl rfl rfl (by omega)) rfl rfl ?_ ?_ ?_ ?_; kernel_rfl; kernel_rfl; kernel_rfl
      refine aB (i := 5) (by kernel_rfl) (aC (Hc := C.A s) (Hr := blk b4 28 (u8s zd32) :: X) rfl (ih (l.take (halfP l.length)) s _ F (by omega) hpre hs1 (by omega)) Try.call11 rfl rfl rfl (fun _ t => t.front (A := [_])) (fun _ _ _ hF hq w t => t.bare.mono hF) ?_)
      rintro _ F1 _ hF1 ⟨rfl, rfl⟩
      refine aB (i := 10) (by kernel_rfl) (aC (Hc := C.A (rootP C s (l.take (halfP l.length))).2) (Hr := blk b4 28 (u8s zd32) :: X) rfl (ih (l.drop (halfP l.length)) _ _ F1 (by omega) (hsuf.mono hF1) hs2 (by omega)) Try.call11 rfl rfl rfl (fun _ t => t) (fun _ _ _ hF hq w t => t.bare.mono (hF1.trans hF)) ?_)
      rintro _ F2 _ hF2 ⟨rfl, rfl⟩
      refine aB (i := 11) (by kernel_rfl) (aC (Hc := C.A (rootP C (rootP C s (l.take (halfP l.length))).2 (l.drop (halfP l.length))).2) (Hr := blk b4 28 (u8s zd32) :: X) rfl (pair_spec C _ (rootP C s (l.take (halfP l.length))).1 (rootP C (rootP C s (l.take (halfP l.length))).2 (l.drop (halfP l.length))).1 F2 (by omega) n1 n2) Try.call26 rfl rfl rfl (fun _ t => t) (fun _ _ _ hF hq w t => t.bare.mono (hF1.trans (hF2.trans hF))) ?_)
      rintro _ F3 _ hF3 ⟨rfl, rfl⟩
      rw [← e2]
      refine aB (i := 12) (by kernel_rfl) (aN rfl (ev_store (b := b4) (vs := u8s (rootP C s l).1) rfl rfl .agg rfl h32 (lay_all (zs := u8s zd32) (by rw [h32]; rfl)) (u8s_ones _) (Upd.app _ .here)) rfl (fun _ _ _ hF hq w t => by obtain ⟨rfl, _, rfl⟩ := hq; exact t.bare.mono (hF1.trans (hF2.trans hF3))) ?_)
      rintro _ _ _ _ ⟨rfl, _, rfl⟩
      refine aD (by kernel_rfl) ?_
      repeat (first|refine zJ rfl rfl ?_|refine jr rfl ?_|refine jn ?_|refine zM rfl rfl ?_|(refine zC rfl rfl ?_ rfl ?_;omega)|(refine zD rfl rfl ?_ rfl ?_;omega)|(refine zP rfl ?_ rfl ?_;omega)|refine zG rfl rfl rfl rfl ?_|(refine jdq rfl rfl ?_ ?_ ?_;kernel_rfl;kernel_rfl)|refine zB rfl rfl rfl (by repeat constructor) rfl ?_|refine zH .here rfl rfl rfl rfl ?_|refine zH (.there .here) rfl rfl rfl rfl ?_|refine zH (.there (.there .here)) rfl rfl rfl rfl ?_)
      exact J_retv (vs := [.agg (u8s (rootP C s l).1).toArray]) rfl (.agg rfl rfl (Rdb.ofB (n := 0) (Pick.app _ .here) (by rw [List.drop_zero, List.take_length])) h32 .nil) (C.A (rootP C s l).2) (fun w s => s.out1) (hF1.trans (hF2.trans hF3)) ⟨rfl, rfl⟩
end Go.Proofs.Ytohlmhoacjodjaa
