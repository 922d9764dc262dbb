/-
  To which root a leaf and a path lead. Conditions are typed with each.
-/
import Derived.Test.YtohlmhoacjodjaaAf
namespace Go.Proofs.Ytohlmhoacjodjaa
open Go.RowKit
set_option maxRecDepth 100000
def turnsF : Nat → Nat → Nat → List Bool
  | 0, _, _ => []
  | f + 1, n, i => if n ≤ 1 then [] else if i < halfP n then false :: turnsF f (halfP n) i else true :: turnsF f (n - halfP n) (i - halfP n)
theorem turnsF_fuel : ∀ (f g n i : Nat), n < f → n < g → turnsF f n i = turnsF g n i
  | 0, _, _, _, h, _ => absurd h (Nat.not_lt_zero _)
  | _ + 1, 0, _, _, _, h => absurd h (Nat.not_lt_zero _)
  | f + 1, g + 1, n, i, h1, h2 => by
    unfold turnsF
    by_cases h0 : n ≤ 1
    · rw [if_pos h0, if_pos h0]
    · rw [if_neg h0, if_neg h0]
      obtain ⟨hp, hl⟩ := halfP_lt (n := n) (by omega)
      by_cases hi : i < halfP n
      · rw [if_pos hi, if_pos hi, turnsF_fuel f g _ _ (by omega) (by omega)]
      · rw [if_neg hi, if_neg hi, turnsF_fuel f g _ _ (by omega) (by omega)]
def turnsP (n i : Nat) : List Bool := turnsF (n + 1) n i
theorem turnsP_1 {n : Nat} (i : Nat) (h : n ≤ 1) : turnsP n i = [] := by
  unfold turnsP turnsF
  rw [if_pos h]
theorem turnsP_l {n i : Nat} (h : 2 ≤ n) (hi : i < halfP n) : turnsP n i = false :: turnsP (halfP n) i := by
  obtain ⟨hp, hl⟩ := halfP_lt h
  unfold turnsP
  rw [turnsF_fuel (halfP n + 1) n _ _ (by omega) hl]
  show (if n ≤ 1 then _ else if i < halfP n then _ else _) = _
  rw [if_neg (by omega), if_pos hi]
theorem turnsP_r {n i : Nat} (h : 2 ≤ n) (hi : ¬ i < halfP n) : turnsP n i = true :: turnsP (n - halfP n) (i - halfP n) := by
  obtain ⟨hp, hl⟩ := halfP_lt h
  unfold turnsP
  rw [turnsF_fuel (n - halfP n + 1) n _ _ (by omega) (by omega)]
  show (if n ≤ 1 then _ else if i < halfP n then _ else _) = _
  rw [if_neg (by omega), if_neg hi]
theorem turnsP_len : ∀ (f n i : Nat), n ≤ f → (turnsP n i).length ≤ n
  | 0, n, i, h => by rw [turnsP_1 i (by omega)]; exact Nat.zero_le _
  | f + 1, n, i, h => by
    by_cases h1 : n ≤ 1
    · rw [turnsP_1 i h1]; exact Nat.zero_le _
    · obtain ⟨hp, hl⟩ := halfP_lt (n := n) (by omega)
      by_cases hi : i < halfP n
      · rw [turnsP_l (by omega) hi, List.length_cons]
        have := turnsP_len f (halfP n) i (by omega)
        omega
      · rw [turnsP_r (by omega) hi, List.length_cons]
        have := turnsP_len f (n - halfP n) (i - halfP n) (by omega)
        omega
def bls (bs : List Bool) : List Value := bs.map Value.bool
theorem elBo : Elem Try.prog 70 4 1 1 (.bool false) := ⟨rfl, ⟨_, rfl, rfl, rfl, rfl, rfl, by decide⟩, rfl, rfl⟩
theorem bls_ones (bs : List Bool) : Ones (bls bs) := fun v hv => by
  obtain ⟨b, _, rfl⟩ := List.mem_map.1 hv
  rfl
set_option maxHeartbeats 4000000 in
theorem turns_spec (n i : Nat) (F : PH) (hn : n ≤ 1048576) (hi : i < n) : Spec Try.prog 30 [.int .i64 n, .int .i64 i] F [] fun u F' H' => F = F' ∧ H' = [own u 4 1 (turnsP n i).length (bls (turnsP n i))] := by
  have htl := turnsP_len n n i (Nat.le_refl _)
  refine Spec.of2 Try.func30 rfl rfl fun X w0 => ?_
  repeat (first|refine zJ rfl rfl ?_|refine jr rfl ?_|refine jn ?_|refine zM rfl rfl ?_|(refine zC rfl rfl ?_ rfl ?_;omega)|(refine zD rfl rfl ?_ rfl ?_;omega)|(refine zP rfl ?_ rfl ?_;omega)|refine zG rfl rfl rfl rfl ?_|(refine jdq rfl rfl ?_ ?_ ?_;kernel_rfl;kernel_rfl)|refine zB rfl rfl rfl (by repeat constructor) rfl ?_|refine zH .here rfl rfl rfl rfl ?_|refine zH (.there .here) rfl rfl rfl rfl ?_|refine zH (.there (.there .here)) rfl rfl rfl rfl ?_)
  refine J_own_nil 4 1 ?_
  refine J_loop4 (fun (m k : Nat) (bs : List Bool) (v : Value) => m ≤ n ∧ k < m ∧ turnsP n i = bs ++ turnsP m k ∧ bs.length + m ≤ n + 0) (fun m _ _ _ => m)
    (fun m k _ v => [(0, .int .i64 m), (1, .int .i64 k), (5, v)]) (fun _ _ _ _ => F) (fun _ _ bs v => own v 4 1 bs.length (bls bs) :: X) n i [] (.slice none 0 0) ⟨Nat.le_refl _, hi, rfl, by simp⟩ ⟨⟨rfl, rfl, rfl, trivial⟩, fun _ s => s⟩ ?_
  rintro m k bs v ⟨hm, hk, he, hbl⟩
  by_cases h1 : m ≤ 1
  · rw [turnsP_1 k h1, List.append_nil] at he
    repeat (first|refine zJ rfl rfl ?_|refine jr rfl ?_|refine jn ?_|refine zM rfl rfl ?_|(refine zC rfl rfl ?_ rfl ?_;omega)|(refine zD rfl rfl ?_ rfl ?_;omega)|(refine zP rfl ?_ rfl ?_;omega)|refine zG rfl rfl rfl rfl ?_|(refine jdq rfl rfl ?_ ?_ ?_;kernel_rfl;kernel_rfl)|refine zB rfl rfl rfl (by repeat constructor) rfl ?_|refine zH .here rfl rfl rfl rfl ?_|refine zH (.there .here) rfl rfl rfl rfl ?_|refine zH (.there (.there .here)) rfl rfl rfl rfl ?_)
    rw [he]
    exact J_ret1 rfl rfl [_] rfl (PH.ler _) ⟨rfl, rfl⟩
  · obtain ⟨hp, hl⟩ := halfP_lt (n := m) (by omega)
    refine jOwn .here fun a7 k7 hv7 _ _ _ => ?_
    subst hv7
    by_cases hk2 : k < halfP m
    · rw [turnsP_l (by omega) hk2] at he
      repeat (first|refine zJ rfl rfl ?_|refine jr rfl ?_|refine jn ?_|refine zM rfl rfl ?_|(refine zC rfl rfl ?_ rfl ?_;omega)|(refine zD rfl rfl ?_ rfl ?_;omega)|(refine zP rfl ?_ rfl ?_;omega)|refine zG rfl rfl rfl rfl ?_|(refine jdq rfl rfl ?_ ?_ ?_;kernel_rfl;kernel_rfl)|refine zB rfl rfl rfl (by repeat constructor) rfl ?_|refine zH .here rfl rfl rfl rfl ?_|refine zH (.there .here) rfl rfl rfl rfl ?_|refine zH (.there (.there .here)) rfl rfl rfl rfl ?_)
      refine oP (half_spec m F (by omega) (by omega)) Try.call25 rfl rfl ?_
      repeat (first|refine zJ rfl rfl ?_|refine jr rfl ?_|refine jn ?_|refine zM rfl rfl ?_|(refine zC rfl rfl ?_ rfl ?_;omega)|(refine zD rfl rfl ?_ rfl ?_;omega)|(refine zP rfl ?_ rfl ?_;omega)|refine zG rfl rfl rfl rfl ?_|(refine jdq rfl rfl ?_ ?_ ?_;kernel_rfl;kernel_rfl)|refine zB rfl rfl rfl (by repeat constructor) rfl ?_|refine zH .here rfl rfl rfl rfl ?_|refine zH (.there .here) rfl rfl rfl rfl ?_|refine zH (.there (.there .here)) rfl rfl rfl rfl ?_)
      try rw [decide_eq_false (show ¬ (halfP m : Int) ≤ (k : Int) by omega)]
      repeat (first|refine zJ rfl rfl ?_|refine jr rfl ?_|refine jn ?_|refine zM rfl rfl ?_|(refine zC rfl rfl ?_ rfl ?_;omega)|(refine zD rfl rfl ?_ rfl ?_;omega)|(refine zP rfl ?_ rfl ?_;omega)|refine zG rfl rfl rfl rfl ?_|(refine jdq rfl rfl ?_ ?_ ?_;kernel_rfl;kernel_rfl)|refine zB rfl rfl rfl (by repeat constructor) rfl ?_|refine zH .here rfl rfl rfl rfl ?_|refine zH (.there .here) rfl rfl rfl rfl ?_|refine zH (.there (.there .here)) rfl rfl rfl rfl ?_)
      refine oA (vs := [.bool false]) (K := fun v' => own v' 4 1 (bs.length + 1) (bls bs ++ [.bool false]) :: X) (fun _ => rfl) rfl .bool rfl elBo (ones_cons rfl ones_nil) (by omega) (fun _ => .here) rfl (fun _ => rfl) fun u _ => ?_
      repeat (first|refine zJ rfl rfl ?_|refine jr rfl ?_|refine jn ?_|refine zM rfl rfl ?_|(refine zC rfl rfl ?_ rfl ?_;omega)|(refine zD rfl rfl ?_ rfl ?_;omega)|(refine zP rfl ?_ rfl ?_;omega)|refine zG rfl rfl rfl rfl ?_|(refine jdq rfl rfl ?_ ?_ ?_;kernel_rfl;kernel_rfl)|refine zB rfl rfl rfl (by repeat constructor) rfl ?_|refine zH .here rfl rfl rfl rfl ?_|refine zH (.there .here) rfl rfl rfl rfl ?_|refine zH (.there (.there .here)) rfl rfl rfl rfl ?_)
      refine J_again4 (halfP m) k (bs ++ [false]) u ⟨by omega, hk2, by rw [he, List.append_assoc]; rfl, by rw [List.length_append, List.length_singleton]; omega⟩ hl ⟨⟨rfl, rfl, rfl, trivial⟩, fun w s => ?_⟩
      rw [List.length_append, List.length_singleton, show bls (bs ++ [false]) = bls bs ++ [.bool false] from by simp [bls]]
      exact s
    · rw [turnsP_r (by omega) hk2] at he
      repeat (first|refine zJ rfl rfl ?_|refine jr rfl ?_|refine jn ?_|refine zM rfl rfl ?_|(refine zC rfl rfl ?_ rfl ?_;omega)|(refine zD rfl rfl ?_ rfl ?_;omega)|(refine zP rfl ?_ rfl ?_;omega)|refine zG rfl rfl rfl rfl ?_|(refine jdq rfl rfl ?_ ?_ ?_;kernel_rfl;kernel_rfl)|refine zB rfl rfl rfl (by repeat constructor) rfl ?_|refine zH .here rfl rfl rfl rfl ?_|refine zH (.there .here) rfl rfl rfl rfl ?_|refine zH (.there (.there .here)) rfl rfl rfl rfl ?_)
      refine oP (half_spec m F (by omega) (by omega)) Try.call25 rfl rfl ?_
      repeat (first|refine zJ rfl rfl ?_|refine jr rfl ?_|refine jn ?_|refine zM rfl rfl ?_|(refine zC rfl rfl ?_ rfl ?_;omega)|(refine zD rfl rfl ?_ rfl ?_;omega)|(refine zP rfl ?_ rfl ?_;omega)|refine zG rfl rfl rfl rfl ?_|(refine jdq rfl rfl ?_ ?_ ?_;kernel_rfl;kernel_rfl)|refine zB rfl rfl rfl (by repeat constructor) rfl ?_|refine zH .here rfl rfl rfl rfl ?_|refine zH (.there .here) rfl rfl rfl rfl ?_|refine zH (.there (.there .here)) rfl rfl rfl rfl ?_)
      try rw [decide_eq_true (show (halfP m : Int) ≤ (k : Int) by omega)]
      repeat (first|refine zJ rfl rfl ?_|refine jr rfl ?_|refine jn ?_|refine zM rfl rfl ?_|(refine zC rfl rfl ?_ rfl ?_;omega)|(refine zD rfl rfl ?_ rfl ?_;omega)|(refine zP rfl ?_ rfl ?_;omega)|refine zG rfl rfl rfl rfl ?_|(refine jdq rfl rfl ?_ ?_ ?_;kernel_rfl;kernel_rfl)|refine zB rfl rfl rfl (by repeat constructor) rfl ?_|refine zH .here rfl rfl rfl rfl ?_|refine zH (.there .here) rfl rfl rfl rfl ?_|refine zH (.there (.there .here)) rfl rfl rfl rfl ?_)
      refine oA (vs := [.bool true]) (K := fun v' => own v' 4 1 (bs.length + 1) (bls bs ++ [.bool true]) :: X) (fun _ => rfl) rfl .bool rfl elBo (ones_cons rfl ones_nil) (by omega) (fun _ => .here) rfl (fun _ => rfl) fun u _ => ?_
      repeat (first|refine zJ rfl rfl ?_|refine jr rfl ?_|refine jn ?_|refine zM rfl rfl ?_|(refine zC rfl rfl ?_ rfl ?_;omega)|(refine zD rfl rfl ?_ rfl ?_;omega)|(refine zP rfl ?_ rfl ?_;omega)|refine zG rfl rfl rfl rfl ?_|(refine jdq rfl rfl ?_ ?_ ?_;kernel_rfl;kernel_rfl)|refine zB rfl rfl rfl (by repeat constructor) rfl ?_|refine zH .here rfl rfl rfl rfl ?_|refine zH (.there .here) rfl rfl rfl rfl ?_|refine zH (.there (.there .here)) rfl rfl rfl rfl ?_)
      refine J_again4 (m - halfP m) (k - halfP m) (bs ++ [true]) u ⟨by omega, by omega, by rw [he, List.append_assoc]; rfl, by rw [List.length_append, List.length_singleton]; omega⟩ (by omega) ⟨⟨?_, ?_, rfl, trivial⟩, fun w s => ?_⟩
      · rw [show ((m - halfP m : Nat) : Int) = (m : Int) - (halfP m : Int) from by omega]; rfl
      · rw [show ((k - halfP m : Nat) : Int) = (k : Int) - (halfP m : Int) from by omega]; rfl
      · rw [List.length_append, List.length_singleton, show bls (bs ++ [true]) = bls bs ++ [.bool true] from by simp [bls]]
        exact s
/-- From the leaf up: what stands beside, and whether the leaf's side is the right one. -/
def upF (C : Cry) : C.σ → List UInt8 → List (List UInt8 × Bool) → List UInt8 × C.σ
  | s, d, [] => (d, s)
  | s, d, (b, right) :: r =>
    let p := if right then pairD C s b d else pairD C s d b
    upF C p.2 p.1 r
def climbP (C : Cry) (s : C.σ) (n : Nat) (i : Nat) (leaf : List UInt8) (path : List (List UInt8)) : Option (List UInt8) × C.σ :=
  if (turnsP n i).length = path.length then
    let p := C.dg s 105 leaf
    let q := upF C p.2 p.1 (path.zip (turnsP n i).reverse)
    (some q.1, q.2)
  else (none, s)
theorem upF_len (C : Cry) : ∀ (r : List (List UInt8 × Bool)) (s : C.σ) (d : List UInt8), d.length = 32 → (upF C s d r).1.length = 32
  | [], _, _, h => h
  | (b, right) :: r, s, d, _ => by
    unfold upF
    refine upF_len C r _ _ ?_
    cases right <;> exact C.len32 _ _ _
theorem upF_snoc (C : Cry) (b : List UInt8) (right : Bool) : ∀ (r : List (List UInt8 × Bool)) (s : C.σ) (d : List UInt8), upF C s d (r ++ [(b, right)]) = (if right then pairD C (upF C s d r).2 b (upF C s d r).1 else pairD C (upF C s d r).2 (upF C s d r).1 b)
  | [], s, d => by cases right <;> rfl
  | (b', right') :: r, s, d => by
    show upF C _ _ (r ++ [(b, right)]) = _
    rw [upF_snoc C b right r]
    rfl
theorem upF_room (C : Cry) : ∀ (r : List (List UInt8 × Bool)) (s : C.σ) (d : List UInt8), C.room (upF C s d r).2 ≤ C.room s + r.length
  | [], s, d => Nat.le_refl _
  | (b, right) :: r, s, d => by
    unfold upF
    have h1 := upF_room C r (if right then pairD C s b d else pairD C s d b).2 (if right then pairD C s b d else pairD C s d b).1
    have h2 : C.room (if right then pairD C s b d else pairD C s d b).2 ≤ C.room s + 1 := by cases right <;> exact C.grow _ _ _
    rw [List.length_cons]
    dsimp only
    omega
def climbV : Option (List UInt8) → List UInt8
  | none => zd32
  | some d => d
theorem climb_len (C : Cry) (s : C.σ) (n i : Nat) (leaf : List UInt8) (path : List (List UInt8)) : (u8s (climbV (climbP C s n i leaf path).1)).length = 32 := by
  unfold climbP
  split
  · rw [u8s_len]
    exact upF_len C _ _ _ (C.len32 _ _ _)
  · rfl
theorem dg_build {l : Env} {F : PH} {H : List Asrt} {d : Option Nat} {U : TypeId} {pos : String} {af : Array Edge} {g : Option (Nat × Bool)} : Ev Try.prog ⟨d, .build 28 #[], U, pos, af, g⟩ l F H (.agg (u8s zd32).toArray) :=
  ev_build_arr (n := 32) (size := 1) (E := 5) (ps := []) (vs := []) (zs := u8s zd32) (t := u8s zd32) rfl (by kernel_rfl) (by kernel_rfl) .nil
set_option maxHeartbeats 8000000 in
theorem climb_out (C : Cry) (n i : Int) (x y : Value) (F : PH) (H : List Asrt) (h : i < 0 ∨ n ≤ i ∨ 1048576 < n) : Spec Try.prog 16 [C.v, .int .i64 n, .int .i64 i, x, y] F H fun u _ H' => u = .tuple #[.agg (u8s zd32).toArray, .bool false] ∧ H' = H := by
  refine Spec.of5 Try.func16 rfl rfl fun X w0 => ?_
  have fin : ∀ {b : Nat} {w : World}, Sat F (blk b 28 (u8s zd32) :: (H ++ X)) w → Sat F (H ++ X) w := fun s => s.drop
  by_cases h0 : i < 0
  · repeat (first|refine zJ rfl rfl ?_|refine jr rfl ?_|refine jn ?_|refine zM rfl rfl ?_|(refine zC rfl rfl ?_ rfl ?_;omega)|(refine zD rfl rfl ?_ rfl ?_;omega)|(refine zP rfl ?_ rfl ?_;omega)|refine zG rfl rfl rfl rfl ?_|(refine jdq rfl rfl ?_ ?_ ?_;kernel_rfl;kernel_rfl)|refine zB rfl rfl rfl (by repeat constructor) rfl ?_|refine zH .here rfl rfl rfl rfl ?_|refine zH (.there .here) rfl rfl rfl rfl ?_|refine zH (.there (.there .here)) rfl rfl rfl rfl ?_)
    refine oE (ev_alloc (E := 28) (cs := u8s zd32) (by kernel_rfl)) rfl ?_
    rintro _ _ _ _ ⟨rfl, b10, rfl, rfl⟩
    repeat (first|refine zJ rfl rfl ?_|refine jr rfl ?_|refine jn ?_|refine zM rfl rfl ?_|(refine zC rfl rfl ?_ rfl ?_;omega)|(refine zD rfl rfl ?_ rfl ?_;omega)|(refine zP rfl ?_ rfl ?_;omega)|refine zG rfl rfl rfl rfl ?_|(refine jdq rfl rfl ?_ ?_ ?_;kernel_rfl;kernel_rfl)|refine zB rfl rfl rfl (by repeat constructor) rfl ?_|refine zH .here rfl rfl rfl rfl ?_|refine zH (.there .here) rfl rfl rfl rfl ?_|refine zH (.there (.there .here)) rfl rfl rfl rfl ?_)
    refine oS dg_build rfl ?_
    refine oN (ev_store (b := b10) (vs := u8s zd32) rfl rfl .agg rfl rfl (lay_all (zs := u8s zd32) rfl) (u8s_ones _) .here) rfl ?_
    rintro _ _ _ _ ⟨rfl, _, rfl⟩
    repeat (first|refine zJ rfl rfl ?_|refine jr rfl ?_|refine jn ?_|refine zM rfl rfl ?_|(refine zC rfl rfl ?_ rfl ?_;omega)|(refine zD rfl rfl ?_ rfl ?_;omega)|(refine zP rfl ?_ rfl ?_;omega)|refine zG rfl rfl rfl rfl ?_|(refine jdq rfl rfl ?_ ?_ ?_;kernel_rfl;kernel_rfl)|refine zB rfl rfl rfl (by repeat constructor) rfl ?_|refine zH .here rfl rfl rfl rfl ?_|refine zH (.there .here) rfl rfl rfl rfl ?_|refine zH (.there (.there .here)) rfl rfl rfl rfl ?_)
    exact J_retv (vs := [.agg (u8s zd32).toArray, .bool false]) rfl (.agg rfl rfl (Rdb.ofB (n := 0) .here (by rw [List.drop_zero, List.take_length])) rfl (.tmp rfl .nil)) H (fun w s => s.drop) (PH.ler _) ⟨rfl, rfl⟩
  by_cases h1 : n ≤ i
  · repeat (first|refine zJ rfl rfl ?_|refine jr rfl ?_|refine jn ?_|refine zM rfl rfl ?_|(refine zC rfl rfl ?_ rfl ?_;omega)|(refine zD rfl rfl ?_ rfl ?_;omega)|(refine zP rfl ?_ rfl ?_;omega)|refine zG rfl rfl rfl rfl ?_|(refine jdq rfl rfl ?_ ?_ ?_;kernel_rfl;kernel_rfl)|refine zB rfl rfl rfl (by repeat constructor) rfl ?_|refine zH .here rfl rfl rfl rfl ?_|refine zH (.there .here) rfl rfl rfl rfl ?_|refine zH (.there (.there .here)) rfl rfl rfl rfl ?_)
    refine oE (ev_alloc (E := 28) (cs := u8s zd32) (by kernel_rfl)) rfl ?_
    rintro _ _ _ _ ⟨rfl, b10, rfl, rfl⟩
    repeat (first|refine zJ rfl rfl ?_|refine jr rfl ?_|refine jn ?_|refine zM rfl rfl ?_|(refine zC rfl rfl ?_ rfl ?_;omega)|(refine zD rfl rfl ?_ rfl ?_;omega)|(refine zP rfl ?_ rfl ?_;omega)|refine zG rfl rfl rfl rfl ?_|(refine jdq rfl rfl ?_ ?_ ?_;kernel_rfl;kernel_rfl)|refine zB rfl rfl rfl (by repeat constructor) rfl ?_|refine zH .here rfl rfl rfl rfl ?_|refine zH (.there .here) rfl rfl rfl rfl ?_|refine zH (.there (.there .here)) rfl rfl rfl rfl ?_)
    refine oS dg_build rfl ?_
    refine oN (ev_store (b := b10) (vs := u8s zd32) rfl rfl .agg rfl rfl (lay_all (zs := u8s zd32) rfl) (u8s_ones _) .here) rfl ?_
    rintro _ _ _ _ ⟨rfl, _, rfl⟩
    repeat (first|refine zJ rfl rfl ?_|refine jr rfl ?_|refine jn ?_|refine zM rfl rfl ?_|(refine zC rfl rfl ?_ rfl ?_;omega)|(refine zD rfl rfl ?_ rfl ?_;omega)|(refine zP rfl ?_ rfl ?_;omega)|refine zG rfl rfl rfl rfl ?_|(refine jdq rfl rfl ?_ ?_ ?_;kernel_rfl;kernel_rfl)|refine zB rfl rfl rfl (by repeat constructor) rfl ?_|refine zH .here rfl rfl rfl rfl ?_|refine zH (.there .here) rfl rfl rfl rfl ?_|refine zH (.there (.there .here)) rfl rfl rfl rfl ?_)
    exact J_retv (vs := [.agg (u8s zd32).toArray, .bool false]) rfl (.agg rfl rfl (Rdb.ofB (n := 0) .here (by rw [List.drop_zero, List.take_length])) rfl (.tmp rfl .nil)) H (fun w s => s.drop) (PH.ler _) ⟨rfl, rfl⟩
  · have h2 : 1048576 < n := by omega
    repeat (first|refine zJ rfl rfl ?_|refine jr rfl ?_|refine jn ?_|refine zM rfl rfl ?_|(refine zC rfl rfl ?_ rfl ?_;omega)|(refine zD rfl rfl ?_ rfl ?_;omega)|(refine zP rfl ?_ rfl ?_;omega)|refine zG rfl rfl rfl rfl ?_|(refine jdq rfl rfl ?_ ?_ ?_;kernel_rfl;kernel_rfl)|refine zB rfl rfl rfl (by repeat constructor) rfl ?_|refine zH .here rfl rfl rfl rfl ?_|refine zH (.there .here) rfl rfl rfl rfl ?_|refine zH (.there (.there .here)) rfl rfl rfl rfl ?_)
    refine oE (ev_alloc (E := 28) (cs := u8s zd32) (by kernel_rfl)) rfl ?_
    rintro _ _ _ _ ⟨rfl, b10, rfl, rfl⟩
    repeat (first|refine zJ rfl rfl ?_|refine jr rfl ?_|refine jn ?_|refine zM rfl rfl ?_|(refine zC rfl rfl ?_ rfl ?_;omega)|(refine zD rfl rfl ?_ rfl ?_;omega)|(refine zP rfl ?_ rfl ?_;omega)|refine zG rfl rfl rfl rfl ?_|(refine jdq rfl rfl ?_ ?_ ?_;kernel_rfl;kernel_rfl)|refine zB rfl rfl rfl (by repeat constructor) rfl ?_|refine zH .here rfl rfl rfl rfl ?_|refine zH (.there .here) rfl rfl rfl rfl ?_|refine zH (.there (.there .here)) rfl rfl rfl rfl ?_)
    refine oS dg_build rfl ?_
    refine oN (ev_store (b := b10) (vs := u8s zd32) rfl rfl .agg rfl rfl (lay_all (zs := u8s zd32) rfl) (u8s_ones _) .here) rfl ?_
    rintro _ _ _ _ ⟨rfl, _, rfl⟩
    repeat (first|refine zJ rfl rfl ?_|refine jr rfl ?_|refine jn ?_|refine zM rfl rfl ?_|(refine zC rfl rfl ?_ rfl ?_;omega)|(refine zD rfl rfl ?_ rfl ?_;omega)|(refine zP rfl ?_ rfl ?_;omega)|refine zG rfl rfl rfl rfl ?_|(refine jdq rfl rfl ?_ ?_ ?_;kernel_rfl;kernel_rfl)|refine zB rfl rfl rfl (by repeat constructor) rfl ?_|refine zH .here rfl rfl rfl rfl ?_|refine zH (.there .here) rfl rfl rfl rfl ?_|refine zH (.there (.there .here)) rfl rfl rfl rfl ?_)
    exact J_retv (vs := [.agg (u8s zd32).toArray, .bool false]) rfl (.agg rfl rfl (Rdb.ofB (n := 0) .here (by rw [List.drop_zero, List.take_length])) rfl (.tmp rfl .nil)) H (fun w s => s.drop) (PH.ler _) ⟨rfl, rfl⟩
set_option maxHeartbeats 16000000 in
theorem climb_spec (C : Cry) (s : C.σ) (n i : Nat) (leaf : List UInt8) (path : List (List UInt8)) (lv pv : Value) (F : PH) (hn : n ≤ 1048576) (hi : i < n) (hr : C.room s + path.length ≤ 80000) (hl : leaf.length ≤ 100000) (hlv : Byt F lv leaf) (hpv : DgV F pv path) (hp32 : D32 path) :
    Spec Try.prog 16 [C.v, .int .i64 n, .int .i64 i, lv, pv] F (C.A s) fun u _ H' => u = .tuple #[.agg (u8s (climbV (climbP C s n i leaf path).1)).toArray, .bool (climbP C s n i leaf path).1.isSome] ∧ H' = C.A (climbP C s n i leaf path).2 := by
  have h32 := climb_len C s n i leaf path
  obtain ⟨_, ap, cp, rfl, hcp, _⟩ := id hpv
  refine Spec.of5 Try.func16 rfl rfl fun X w0 => ?_
  repeat (first|refine zJ rfl rfl ?_|refine jr rfl ?_|refine jn ?_|refine zM rfl rfl ?_|(refine zC rfl rfl ?_ rfl ?_;omega)|(refine zD rfl rfl ?_ rfl ?_;omega)|(refine zP rfl ?_ rfl ?_;omega)|refine zG rfl rfl rfl rfl ?_|(refine jdq rfl rfl ?_ ?_ ?_;kernel_rfl;kernel_rfl)|refine zB rfl rfl rfl (by repeat constructor) rfl ?_|refine zH .here rfl rfl rfl rfl ?_|refine zH (.there .here) rfl rfl rfl rfl ?_|refine zH (.there (.there .here)) rfl rfl rfl rfl ?_)
  refine oE (ev_alloc (E := 28) (cs := u8s zd32) (by kernel_rfl)) rfl ?_
  rintro _ _ _ _ ⟨rfl, b10, rfl, rfl⟩
  repeat (first|refine zJ rfl rfl ?_|refine jr rfl ?_|refine jn ?_|refine zM rfl rfl ?_|(refine zC rfl rfl ?_ rfl ?_;omega)|(refine zD rfl rfl ?_ rfl ?_;omega)|(refine zP rfl ?_ rfl ?_;omega)|refine zG rfl rfl rfl rfl ?_|(refine jdq rfl rfl ?_ ?_ ?_;kernel_rfl;kernel_rfl)|refine zB rfl rfl rfl (by repeat constructor) rfl ?_|refine zH .here rfl rfl rfl rfl ?_|refine zH (.there .here) rfl rfl rfl rfl ?_|refine zH (.there (.there .here)) rfl rfl rfl rfl ?_)
  refine oC (Hc := []) (Hr := blk b10 28 (u8s zd32) :: (C.A s ++ X)) (turns_spec n i F hn hi) Try.call30 rfl rfl (fun _ t => t) ?_
  rintro ut _ _ _ ⟨rfl, rfl⟩
  refine oPersist fun hh hA hd => ?_
  have hbt := own_slice hA hd
  have hF1 := PH.le_l F hh
  generalize F.un hh = F1 at *
  obtain ⟨_, at_, kt, rfl, hkt, _⟩ := id hbt
  by_cases hlen : (turnsP n i).length = path.length
  · repeat (first|refine zJ rfl rfl ?_|refine jr rfl ?_|refine jn ?_|refine zM rfl rfl ?_|(refine zC rfl rfl ?_ rfl ?_;omega)|(refine zD rfl rfl ?_ rfl ?_;omega)|(refine zP rfl ?_ rfl ?_;omega)|refine zG rfl rfl rfl rfl ?_|(refine jdq rfl rfl ?_ ?_ ?_;kernel_rfl;kernel_rfl)|refine zB rfl rfl rfl (by repeat constructor) rfl ?_|refine zH .here rfl rfl rfl rfl ?_|refine zH (.there .here) rfl rfl rfl rfl ?_|refine zH (.there (.there .here)) rfl rfl rfl rfl ?_)
    refine oC (Hc := C.A s) (Hr := blk b10 28 (u8s zd32) :: X) (leaf_spec C s leaf lv F1 (by omega) hl (SliceV.mono hlv hF1)) Try.call24 rfl rfl (fun w t => t.front (A := [_])) ?_
    rintro _ F2 _ hF2 ⟨rfl, rfl⟩
    refine oE (ev_alloc (E := 28) (cs := u8s zd32) (by kernel_rfl)) rfl ?_
    rintro _ _ _ _ ⟨rfl, b13, rfl, rfl⟩
    have hd0 : (u8s (C.dg s 105 leaf).1).length = 32 := by rw [u8s_len, C.len32]
    refine oN (ev_store (b := b13) rfl rfl .agg rfl hd0 (lay_all (zs := u8s zd32) (by rw [hd0]; rfl)) (u8s_ones _) .here) rfl ?_
    rintro _ _ _ _ ⟨rfl, _, rfl⟩
    refine oW (H' := blk b13 28 (u8s (C.dg s 105 leaf).1) :: blk b10 28 (u8s zd32) :: (C.A (C.dg s 105 leaf).2 ++ X)) ?_ (fun w t => by
      have t2 : Sat F2 ([blk b13 28 (u8s (C.dg s 105 leaf).1)] ++ (C.A (C.dg s 105 leaf).2 ++ (blk b10 28 (u8s zd32) :: X))) w := t
      have t3 := (Sat.front (A := [blk b13 28 (u8s (C.dg s 105 leaf).1)]) (B := C.A (C.dg s 105 leaf).2) t2)
      exact Sat.front (B := [_, _]) t3)
    have hg0 := C.grow s 105 leaf
    repeat (first|refine zJ rfl rfl ?_|refine jr rfl ?_|refine jn ?_|refine zM rfl rfl ?_|(refine zC rfl rfl ?_ rfl ?_;omega)|(refine zD rfl rfl ?_ rfl ?_;omega)|(refine zP rfl ?_ rfl ?_;omega)|refine zG rfl rfl rfl rfl ?_|(refine jdq rfl rfl ?_ ?_ ?_;kernel_rfl;kernel_rfl)|refine zB rfl rfl rfl (by repeat constructor) rfl ?_|refine zH .here rfl rfl rfl rfl ?_|refine zH (.there .here) rfl rfl rfl rfl ?_|refine zH (.there (.there .here)) rfl rfl rfl rfl ?_)
    refine J_loop2 (fun (j : Nat) (G : PH) => j ≤ path.length ∧ F2.le G) (fun j _ => path.length - j)
      (fun j _ => [(0, C.v), (10, .pointer (some ⟨b10, 0, none⟩)), (12, .slice at_ (turnsP n i).length kt), (13, .pointer (some ⟨b13, 0, none⟩)), (40, .slice ap path.length cp), (41, .int .i64 path.length), (42, .int .i64 j)]) (fun _ G => G)
      (fun j _ => blk b13 28 (u8s (upF C (C.dg s 105 leaf).2 (C.dg s 105 leaf).1 ((path.zip (turnsP n i).reverse).take j)).1) :: blk b10 28 (u8s zd32) :: (C.A (upF C (C.dg s 105 leaf).2 (C.dg s 105 leaf).1 ((path.zip (turnsP n i).reverse).take j)).2 ++ X)) 0 F2 ⟨Nat.zero_le _, PH.ler _⟩ ⟨⟨rfl, rfl, rfl, rfl, rfl, rfl, rfl, trivial⟩, fun _ t => t⟩ ?_
    rintro j G ⟨hj, hG⟩
    by_cases hjl : j < path.length
    · have g1 : path[j]? = some path[j] := List.getElem?_eq_getElem hjl
      have hb32 := hp32 _ (List.getElem_mem hjl)
      have hx : path.length - 1 - j < (turnsP n i).length := by omega
      have g2 : (turnsP n i)[path.length - 1 - j]? = some (turnsP n i)[path.length - 1 - j] := List.getElem?_eq_getElem hx
      have gz : (path.zip (turnsP n i).reverse)[j]? = some (path[j], (turnsP n i)[path.length - 1 - j]) := by
        rw [List.getElem?_zip_eq_some]
        refine ⟨g1, ?_⟩
        rw [List.getElem?_reverse (by omega), show (turnsP n i).length - 1 - j = path.length - 1 - j from by omega, g2]
      have hstep : (path.zip (turnsP n i).reverse).take (j + 1) = (path.zip (turnsP n i).reverse).take j ++ [(path[j], (turnsP n i)[path.length - 1 - j])] := by rw [List.take_add_one, gz]; rfl
      have hup := upF_snoc C path[j] (turnsP n i)[path.length - 1 - j] ((path.zip (turnsP n i).reverse).take j) (C.dg s 105 leaf).2 (C.dg s 105 leaf).1
      rw [← hstep] at hup
      obtain ⟨b5, o5, rfl, hc5⟩ := DgV.at (SliceV.mono hpv (hF1.trans (hF2.trans hG))) hp32 g1 hjl
      have hcw : ∃ bt ot, at_ = some ⟨bt, ot, none⟩ ∧ Cells G bt (ot + (path.length - 1 - j) * 1) [.bool (turnsP n i)[path.length - 1 - j]] := by
        obtain ⟨hl0, a', c', e', _, h0⟩ := SliceV.mono hbt (hF2.trans hG)
        cases e'
        obtain ⟨bt, ot, rfl, hct⟩ := h0 (by omega)
        refine ⟨bt, ot, rfl, ?_⟩
        have := hct.one (path.length - 1 - j) (v := .bool (turnsP n i)[path.length - 1 - j]) (by unfold bls; rw [List.getElem?_map, g2]; rfl)
        rwa [Nat.mul_one]
      obtain ⟨bt, ot, rfl, hcw⟩ := hcw
      have hroom := upF_room C ((path.zip (turnsP n i).reverse).take j) (C.dg s 105 leaf).2 (C.dg s 105 leaf).1
      have hlz : ((path.zip (turnsP n i).reverse).take j).length ≤ path.length := by rw [List.length_take, List.length_zip]; omega
      have hd32 := upF_len C ((path.zip (turnsP n i).reverse).take j) (C.dg s 105 leaf).2 (C.dg s 105 leaf).1 (C.len32 _ _ _)
      generalize path[j] = bd at *
      generalize hwy : (turnsP n i)[path.length - 1 - j] = wy at *
      generalize hcur : upF C (C.dg s 105 leaf).2 (C.dg s 105 leaf).1 ((path.zip (turnsP n i).reverse).take j) = cur at *
      have hb8 : (u8s bd).length = 32 := by rw [u8s_len, hb32]
      have hd8 : (u8s cur.1).length = 32 := by rw [u8s_len, hd32]
      repeat (first|refine zJ rfl rfl ?_|refine jr rfl ?_|refine jn ?_|refine zM rfl rfl ?_|(refine zC rfl rfl ?_ rfl ?_;omega)|(refine zD rfl rfl ?_ rfl ?_;omega)|(refine zP rfl ?_ rfl ?_;omega)|refine zG rfl rfl rfl rfl ?_|(refine jdq rfl rfl ?_ ?_ ?_;kernel_rfl;kernel_rfl)|refine zB rfl rfl rfl (by repeat constructor) rfl ?_|refine zH .here rfl rfl rfl rfl ?_|refine zH (.there .here) rfl rfl rfl rfl ?_|refine zH (.there (.there .here)) rfl rfl rfl rfl ?_)
      refine oS (ev_indexAddr rfl rfl rfl hjl) rfl ?_
      refine oS (ev_load_agg rfl rfl (Rdb.ofF hc5) hb8) rfl ?_
      refine oE (ev_alloc (E := 28) (cs := u8s zd32) (by kernel_rfl)) rfl ?_
      rintro _ _ _ _ ⟨rfl, b15, rfl, rfl⟩
      repeat (first|refine zJ rfl rfl ?_|refine jr rfl ?_|refine jn ?_|refine zM rfl rfl ?_|(refine zC rfl rfl ?_ rfl ?_;omega)|(refine zD rfl rfl ?_ rfl ?_;omega)|(refine zP rfl ?_ rfl ?_;omega)|refine zG rfl rfl rfl rfl ?_|(refine jdq rfl rfl ?_ ?_ ?_;kernel_rfl;kernel_rfl)|refine zB rfl rfl rfl (by repeat constructor) rfl ?_|refine zH .here rfl rfl rfl rfl ?_|refine zH (.there .here) rfl rfl rfl rfl ?_|refine zH (.there (.there .here)) rfl rfl rfl rfl ?_)
      refine oN (ev_store (b := b15) rfl rfl .agg rfl hb8 (lay_all (zs := u8s zd32) (by rw [hb8]; rfl)) (u8s_ones _) .here) rfl ?_
      rintro _ _ _ _ ⟨rfl, _, rfl⟩
      repeat (first|refine zJ rfl rfl ?_|refine jr rfl ?_|refine jn ?_|refine zM rfl rfl ?_|(refine zC rfl rfl ?_ rfl ?_;omega)|(refine zD rfl rfl ?_ rfl ?_;omega)|(refine zP rfl ?_ rfl ?_;omega)|refine zG rfl rfl rfl rfl ?_|(refine jdq rfl rfl ?_ ?_ ?_;kernel_rfl;kernel_rfl)|refine zB rfl rfl rfl (by repeat constructor) rfl ?_|refine zH .here rfl rfl rfl rfl ?_|refine zH (.there .here) rfl rfl rfl rfl ?_|refine zH (.there (.there .here)) rfl rfl rfl rfl ?_)
      rw [show ((turnsP n i).length : Int) - 1 - (j : Int) = ((path.length - 1 - j : Nat) : Int) from by omega]
      refine oS (ev_indexAddr (i := path.length - 1 - j) rfl rfl rfl hx) rfl ?_
      refine oS (ev_load (v := .bool wy) rfl rfl (Rdb.ofF hcw)) rfl ?_
      cases wy with
      | true =>
        rw [if_pos rfl] at hup
        repeat (first|refine zJ rfl rfl ?_|refine jr rfl ?_|refine jn ?_|refine zM rfl rfl ?_|(refine zC rfl rfl ?_ rfl ?_;omega)|(refine zD rfl rfl ?_ rfl ?_;omega)|(refine zP rfl ?_ rfl ?_;omega)|refine zG rfl rfl rfl rfl ?_|(refine jdq rfl rfl ?_ ?_ ?_;kernel_rfl;kernel_rfl)|refine zB rfl rfl rfl (by repeat constructor) rfl ?_|refine zH .here rfl rfl rfl rfl ?_|refine zH (.there .here) rfl rfl rfl rfl ?_|refine zH (.there (.there .here)) rfl rfl rfl rfl ?_)
        refine oS (ev_load_agg (cs := u8s bd) rfl rfl (Rdb.ofB (n := 0) .here (by rw [List.drop_zero, List.take_length])) hb8) rfl ?_
        refine oS (ev_load_agg (cs := u8s cur.1) rfl rfl (Rdb.ofB (n := 0) (.there .here) (by rw [List.drop_zero, List.take_length])) hd8) rfl ?_
        refine oC (Hc := C.A cur.2) (Hr := blk b15 28 (u8s bd) :: blk b13 28 (u8s cur.1) :: blk b10 28 (u8s zd32) :: X) (pair_spec C cur.2 bd cur.1 G (by omega) hb32 hd32) Try.call26 rfl rfl (fun w t => Sat.front (A := [_, _, _]) (B := C.A cur.2) t) ?_
        rintro _ G1 _ hG1 ⟨rfl, rfl⟩
        rw [← hup]
        have hn32 : (u8s (upF C (C.dg s 105 leaf).2 (C.dg s 105 leaf).1 ((path.zip (turnsP n i).reverse).take (j + 1))).1).length = 32 := by rw [u8s_len]; exact upF_len C _ _ _ (C.len32 _ _ _)
        refine oN (ev_store (b := b13) (vs := u8s (upF C (C.dg s 105 leaf).2 (C.dg s 105 leaf).1 ((path.zip (turnsP n i).reverse).take (j + 1))).1) rfl rfl .agg rfl hn32 (lay_all (zs := u8s cur.1) (by rw [hn32, hd8])) (u8s_ones _) (Upd.app _ (.there .here))) rfl ?_
        rintro _ _ _ _ ⟨rfl, _, rfl⟩
        repeat (first|refine zJ rfl rfl ?_|refine jr rfl ?_|refine jn ?_|refine zM rfl rfl ?_|(refine zC rfl rfl ?_ rfl ?_;omega)|(refine zD rfl rfl ?_ rfl ?_;omega)|(refine zP rfl ?_ rfl ?_;omega)|refine zG rfl rfl rfl rfl ?_|(refine jdq rfl rfl ?_ ?_ ?_;kernel_rfl;kernel_rfl)|refine zB rfl rfl rfl (by repeat constructor) rfl ?_|refine zH .here rfl rfl rfl rfl ?_|refine zH (.there .here) rfl rfl rfl rfl ?_|refine zH (.there (.there .here)) rfl rfl rfl rfl ?_)
        exact J_again2 (j + 1) G1 ⟨hjl, hG.trans hG1⟩ (by omega) ⟨⟨rfl, rfl, rfl, rfl, rfl, rfl, rfl, trivial⟩, fun w t => (Sat.front (B := [_, _, _]) t).drop⟩
      | false =>
        rw [if_neg (by decide)] at hup
        repeat (first|refine zJ rfl rfl ?_|refine jr rfl ?_|refine jn ?_|refine zM rfl rfl ?_|(refine zC rfl rfl ?_ rfl ?_;omega)|(refine zD rfl rfl ?_ rfl ?_;omega)|(refine zP rfl ?_ rfl ?_;omega)|refine zG rfl rfl rfl rfl ?_|(refine jdq rfl rfl ?_ ?_ ?_;kernel_rfl;kernel_rfl)|refine zB rfl rfl rfl (by repeat constructor) rfl ?_|refine zH .here rfl rfl rfl rfl ?_|refine zH (.there .here) rfl rfl rfl rfl ?_|refine zH (.there (.there .here)) rfl rfl rfl rfl ?_)
        refine oS (ev_load_agg (cs := u8s cur.1) rfl rfl (Rdb.ofB (n := 0) (.there .here) (by rw [List.drop_zero, List.take_length])) hd8) rfl ?_
        refine oS (ev_load_agg (cs := u8s bd) rfl rfl (Rdb.ofB (n := 0) .here (by rw [List.drop_zero, List.take_length])) hb8) rfl ?_
        refine oC (Hc := C.A cur.2) (Hr := blk b15 28 (u8s bd) :: blk b13 28 (u8s cur.1) :: blk b10 28 (u8s zd32) :: X) (pair_spec C cur.2 cur.1 bd G (by omega) hd32 hb32) Try.call26 rfl rfl (fun w t => Sat.front (A := [_, _, _]) (B := C.A cur.2) t) ?_
        rintro _ G1 _ hG1 ⟨rfl, rfl⟩
        rw [← hup]
        have hn32 : (u8s (upF C (C.dg s 105 leaf).2 (C.dg s 105 leaf).1 ((path.zip (turnsP n i).reverse).take (j + 1))).1).length = 32 := by rw [u8s_len]; exact upF_len C _ _ _ (C.len32 _ _ _)
        refine oN (ev_store (b := b13) (vs := u8s (upF C (C.dg s 105 leaf).2 (C.dg s 105 leaf).1 ((path.zip (turnsP n i).reverse).take (j + 1))).1) rfl rfl .agg rfl hn32 (lay_all (zs := u8s cur.1) (by rw [hn32, hd8])) (u8s_ones _) (Upd.app _ (.there .here))) rfl ?_
        rintro _ _ _ _ ⟨rfl, _, rfl⟩
        repeat (first|refine zJ rfl rfl ?_|refine jr rfl ?_|refine jn ?_|refine zM rfl rfl ?_|(refine zC rfl rfl ?_ rfl ?_;omega)|(refine zD rfl rfl ?_ rfl ?_;omega)|(refine zP rfl ?_ rfl ?_;omega)|refine zG rfl rfl rfl rfl ?_|(refine jdq rfl rfl ?_ ?_ ?_;kernel_rfl;kernel_rfl)|refine zB rfl rfl rfl (by repeat constructor) rfl ?_|refine zH .here rfl rfl rfl rfl ?_|refine zH (.there .here) rfl rfl rfl rfl ?_|refine zH (.there (.there .here)) rfl rfl rfl rfl ?_)
        exact J_again2 (j + 1) G1 ⟨hjl, hG.trans hG1⟩ (by omega) ⟨⟨rfl, rfl, rfl, rfl, rfl, rfl, rfl, trivial⟩, fun w t => (Sat.front (B := [_, _, _]) t).drop⟩
    · obtain rfl : j = path.length := by omega
      have hcl : climbP C s n i leaf path = (some (upF C (C.dg s 105 leaf).2 (C.dg s 105 leaf).1 (path.zip (turnsP n i).reverse)).1, (upF C (C.dg s 105 leaf).2 (C.dg s 105 leaf).1 (path.zip (turnsP n i).reverse)).2) := by unfold climbP; rw [if_pos hlen]
      rw [List.take_of_length_le (by rw [List.length_zip]; omega)]
      rw [hcl] at h32 ⊢
      dsimp only [climbV, Option.isSome] at h32 ⊢
      generalize upF C (C.dg s 105 leaf).2 (C.dg s 105 leaf).1 (path.zip (turnsP n i).reverse) = cur at *
      repeat (first|refine zJ rfl rfl ?_|refine jr rfl ?_|refine jn ?_|refine zM rfl rfl ?_|(refine zC rfl rfl ?_ rfl ?_;omega)|(refine zD rfl rfl ?_ rfl ?_;omega)|(refine zP rfl ?_ rfl ?_;omega)|refine zG rfl rfl rfl rfl ?_|(refine jdq rfl rfl ?_ ?_ ?_;kernel_rfl;kernel_rfl)|refine zB rfl rfl rfl (by repeat constructor) rfl ?_|refine zH .here rfl rfl rfl rfl ?_|refine zH (.there .here) rfl rfl rfl rfl ?_|refine zH (.there (.there .here)) rfl rfl rfl rfl ?_)
      refine oS (ev_load_agg (cs := u8s cur.1) rfl rfl (Rdb.ofB (n := 0) .here (by rw [List.drop_zero, List.take_length])) h32) rfl ?_
      refine oN (ev_store (b := b10) rfl rfl .agg rfl h32 (lay_all (zs := u8s zd32) (by rw [h32]; rfl)) (u8s_ones _) (.there .here)) rfl ?_
      rintro _ _ _ _ ⟨rfl, _, rfl⟩
      repeat (first|refine zJ rfl rfl ?_|refine jr rfl ?_|refine jn ?_|refine zM rfl rfl ?_|(refine zC rfl rfl ?_ rfl ?_;omega)|(refine zD rfl rfl ?_ rfl ?_;omega)|(refine zP rfl ?_ rfl ?_;omega)|refine zG rfl rfl rfl rfl ?_|(refine jdq rfl rfl ?_ ?_ ?_;kernel_rfl;kernel_rfl)|refine zB rfl rfl rfl (by repeat constructor) rfl ?_|refine zH .here rfl rfl rfl rfl ?_|refine zH (.there .here) rfl rfl rfl rfl ?_|refine zH (.there (.there .here)) rfl rfl rfl rfl ?_)
      exact J_retv (vs := [.agg (u8s cur.1).toArray, .bool true]) rfl (.agg rfl rfl (Rdb.ofB (n := 0) (.there .here) (by rw [List.drop_zero, List.take_length])) h32 (.tmp rfl .nil)) (C.A cur.2) (fun w t => t.drop.drop) (hF1.trans (hF2.trans hG)) ⟨rfl, rfl⟩
  · have hcl : climbP C s n i leaf path = (none, s) := by unfold climbP; rw [if_neg hlen]
    rw [hcl]
    repeat (first|refine zJ rfl rfl ?_|refine jr rfl ?_|refine jn ?_|refine zM rfl rfl ?_|(refine zC rfl rfl ?_ rfl ?_;omega)|(refine zD rfl rfl ?_ rfl ?_;omega)|(refine zP rfl ?_ rfl ?_;omega)|refine zG rfl rfl rfl rfl ?_|(refine jdq rfl rfl ?_ ?_ ?_;kernel_rfl;kernel_rfl)|refine zB rfl rfl rfl (by repeat constructor) rfl ?_|refine zH .here rfl rfl rfl rfl ?_|refine zH (.there .here) rfl rfl rfl rfl ?_|refine zH (.there (.there .here)) rfl rfl rfl rfl ?_)
    refine oS dg_build rfl ?_
    refine oN (ev_store (b := b10) (vs := u8s zd32) rfl rfl .agg rfl rfl (lay_all (zs := u8s zd32) rfl) (u8s_ones _) .here) rfl ?_
    rintro _ _ _ _ ⟨rfl, _, rfl⟩
    repeat (first|refine zJ rfl rfl ?_|refine jr rfl ?_|refine jn ?_|refine zM rfl rfl ?_|(refine zC rfl rfl ?_ rfl ?_;omega)|(refine zD rfl rfl ?_ rfl ?_;omega)|(refine zP rfl ?_ rfl ?_;omega)|refine zG rfl rfl rfl rfl ?_|(refine jdq rfl rfl ?_ ?_ ?_;kernel_rfl;kernel_rfl)|refine zB rfl rfl rfl (by repeat constructor) rfl ?_|refine zH .here rfl rfl rfl rfl ?_|refine zH (.there .here) rfl rfl rfl rfl ?_|refine zH (.there (.there .here)) rfl rfl rfl rfl ?_)
    exact J_retv (vs := [.agg (u8s zd32).toArray, .bool false]) rfl (.agg rfl rfl (Rdb.ofB (n := 0) .here (by rw [List.drop_zero, List.take_length])) rfl (.tmp rfl .nil)) (C.A s) (fun w t => t.drop) hF1 ⟨rfl, rfl⟩
end Go.Proofs.Ytohlmhoacjodjaa
