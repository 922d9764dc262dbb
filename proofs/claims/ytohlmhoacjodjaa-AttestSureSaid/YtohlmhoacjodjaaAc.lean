/-
  Digests by a book, the program's and the document's: numbers, places. Conditions are typed with each.
-/
import Derived.Test.YtohlmhoacjodjaaAa
import Derived.Test.YtohlmhoacjodjaaOd
import Derived.Test.YtohlmhoacjodjaaKr
import Derived.Test.YtohlmhoacjodjaaKn
import Derived.Test.YtohlmhoacjodjaaLc
namespace Go.Proofs.Ytohlmhoacjodjaa
open Go.RowKit
set_option maxRecDepth 100000
/-- A digested text: its kind, and it. -/
abbrev Hk := Int × List UInt8
def hkV (a : Hk) : Value := .agg [.int .u8 a.1, .string (strOf a.2)].toArray
def keyHs : KeyT Try.prog 108 Hk where
  val := hkV
  chk := fun b a w => checkKey_two (f1 := (Try.prog.fieldsOf 108)[0]!) (f2 := (Try.prog.fieldsOf 108)[1]!) (by kernel_rfl) (by kernel_rfl) (by kernel_rfl) (by kernel_rfl) (by kernel_rfl) b _ _ 9998 w
  same := fun a => by simp [hkV, Instr.sameBits, strOf_beq]
  find := find_wide hkV (by kernel_rfl) fun a b w => by
    have h : EqC Try.prog 9999 0 [.int .u8 a.1, .string (strOf a.2)] [.int .u8 b.1, .string (strOf b.2)] (Try.prog.fieldsOf 108).toList _ := .int (by decide) rfl rfl (.str (by decide) rfl rfl .nil)
    have h2 := eqC_struct (d := 9997) (by kernel_rfl) (by kernel_rfl) h w
    refine Eq.trans h2 ?_
    congr 1
    rw [Bool.and_true, strOf_toList, strOf_toList, ← Bool.decide_and]
    congr 1
    rw [Prod.ext_iff]
def keyS : KeyT Try.prog 9 (List UInt8) := keyStr rfl
/-! numbers of keys, as they came -/
section
variable {α : Type} [DecidableEq α]
def posN : List α → α → Nat → Option Nat
  | [], _, _ => none
  | a :: r, k, n => if k = a then some n else posN r k (n + 1)
def digN : List α → Nat → List (α × Value)
  | [], _ => []
  | a :: r, n => (a, .int .i64 n) :: digN r (n + 1)
theorem getK_digN (k : α) : ∀ (ks : List α) (n : Nat), getK (digN ks n) k = (posN ks k n).map fun (m : Nat) => Value.int .i64 m
  | [], n => rfl
  | a :: r, n => by
    unfold digN posN
    rw [getK_cons]
    by_cases h : k = a
    · rw [if_pos h, if_pos h]; rfl
    · rw [if_neg h, if_neg h, getK_digN k r (n + 1)]
omit [DecidableEq α] in
theorem digN_snoc (k : α) : ∀ (ks : List α) (n : Nat), digN (ks ++ [k]) n = digN ks n ++ [(k, .int .i64 ((n + ks.length : Nat) : Int))]
  | [], n => rfl
  | a :: r, n => by
    show (a, _) :: digN (r ++ [k]) (n + 1) = _
    rw [digN_snoc k r (n + 1)]
    simp only [digN, List.cons_append, List.length_cons]
    rw [show n + 1 + r.length = n + (r.length + 1) from by omega]
omit [DecidableEq α] in
theorem digN_len : ∀ (ks : List α) (n : Nat), (digN ks n).length = ks.length
  | [], _ => rfl
  | a :: r, n => by simp [digN, digN_len r]
theorem posN_app {k : α} {m : Nat} : ∀ (ks ks' : List α) (n : Nat), posN ks k n = some m → posN (ks ++ ks') k n = some m
  | [], _, _, h => by cases h
  | a :: r, ks', n, h => by
    unfold posN at h
    show (if k = a then some n else posN (r ++ ks') k (n + 1)) = some m
    by_cases e : k = a
    · rw [if_pos e] at h ⊢; exact h
    · rw [if_neg e] at h ⊢; exact posN_app r ks' _ h
theorem posN_new {k : α} : ∀ (ks : List α) (n : Nat), posN ks k n = none → posN (ks ++ [k]) k n = some (n + ks.length)
  | [], n, _ => by simp [posN]
  | a :: r, n, h => by
    unfold posN at h
    show (if k = a then some n else posN (r ++ [k]) k (n + 1)) = _
    by_cases e : k = a
    · rw [if_pos e] at h; cases h
    · rw [if_neg e] at h ⊢
      rw [posN_new r _ h, List.length_cons]
      congr 1
      omega
theorem posN_le {k : α} {m : Nat} : ∀ (ks : List α) (n : Nat), posN ks k n = some m → n ≤ m ∧ m < n + ks.length
  | [], _, h => by cases h
  | a :: r, n, h => by
    unfold posN at h
    by_cases e : k = a
    · rw [if_pos e] at h; cases h; rw [List.length_cons]; omega
    · rw [if_neg e] at h
      have := posN_le r _ h
      rw [List.length_cons]
      omega
theorem posN_inj {k k' : α} {m : Nat} : ∀ (ks : List α) (n : Nat), posN ks k n = some m → posN ks k' n = some m → k = k'
  | [], _, h, _ => by cases h
  | a :: r, n, h, h' => by
    unfold posN at h h'
    by_cases e : k = a
    · rw [if_pos e] at h
      cases h
      by_cases e' : k' = a
      · rw [e, e']
      · rw [if_neg e'] at h'
        have := posN_le r _ h'
        omega
    · rw [if_neg e] at h
      by_cases e' : k' = a
      · rw [if_pos e'] at h'
        cases h'
        have := posN_le r _ h
        omega
      · rw [if_neg e'] at h'
        exact posN_inj r _ h h'
/-- A key's number, and all keys afterwards. -/
def placeP (ks : List α) (k : α) : Nat × List α := match posN ks k 1 with
  | some m => (m, ks)
  | none => (ks.length + 1, ks ++ [k])
end
def dnuB (kind : Int) (n : Nat) : List UInt8 := UInt8.ofNat kind.toNat :: (List.replicate 23 0 ++ putB n 8)
theorem dnuB_len (kind : Int) (n : Nat) : (dnuB kind n).length = 32 := by
  have := putB_len (v := n) (m := 8) rfl
  simp only [dnuB, List.length_cons, List.length_append, List.length_replicate]
  rw [show (8 : Int) = ((8 : Nat) : Int) from rfl, this]
theorem placeP_pos {α : Type} [DecidableEq α] (ks : List α) (k : α) : posN (placeP ks k).2 k 1 = some (placeP ks k).1 := by
  unfold placeP
  cases h : posN ks k 1 with
  | some m => exact h
  | none => rw [posN_new ks 1 h]; congr 1; dsimp only; omega
theorem placeP_ext {α : Type} [DecidableEq α] (ks : List α) (k : α) : ∃ t, (placeP ks k).2 = ks ++ t ∧ t.length ≤ 1 := by
  unfold placeP
  cases h : posN ks k 1 with
  | some m => exact ⟨[], by simp, by simp⟩
  | none => exact ⟨[k], rfl, by simp⟩
/-- A book, with what was digested; what it knows of tags stays beside. -/
def bookA (b m : Nat) (tg : Value) (ks : List Hk) : List Asrt := [blk b 75 [.map (some m), tg], mp keyHs m (digN ks 1)]
set_option maxHeartbeats 4000000 in
theorem place_spec (m : Nat) (k : Hk) (ks : List Hk) (F : PH) (hl : ks.length ≤ 1000000) : Spec Try.prog 62 [.map (some m), hkV k] F [mp keyHs m (digN ks 1)] fun u F' H' => F = F' ∧ u = .int .i64 (placeP ks k).1 ∧ H' = [mp keyHs m (digN (placeP ks k).2 1)] := by
  have hg := getK_digN k ks 1
  refine Spec.of2 Try.func62 rfl rfl fun X w0 => ?_
  unfold hkV
  repeat (first|refine zJ rfl rfl ?_|refine jr rfl ?_|refine jn ?_|refine zM rfl rfl ?_|(refine zC rfl rfl ?_ rfl ?_;omega)|(refine zD rfl rfl ?_ rfl ?_;omega)|(refine zP rfl ?_ rfl ?_;omega)|refine zG rfl rfl rfl rfl ?_|(refine jdq rfl rfl ?_ ?_ ?_;kernel_rfl;kernel_rfl)|refine zB rfl rfl rfl (by repeat constructor) rfl ?_|refine zH .here rfl rfl rfl rfl ?_|refine zH (.there .here) rfl rfl rfl rfl ?_|refine zH (.there (.there .here)) rfl rfl rfl rfl ?_)
  refine oE (ev_box rfl .agg) rfl ?_; rintro _ _ _ _ ⟨rfl, b3, rfl, rfl⟩
  repeat (first|refine zJ rfl rfl ?_|refine jr rfl ?_|refine jn ?_|refine zM rfl rfl ?_|(refine zC rfl rfl ?_ rfl ?_;omega)|(refine zD rfl rfl ?_ rfl ?_;omega)|(refine zP rfl ?_ rfl ?_;omega)|refine zG rfl rfl rfl rfl ?_|(refine jdq rfl rfl ?_ ?_ ?_;kernel_rfl;kernel_rfl)|refine zB rfl rfl rfl (by repeat constructor) rfl ?_|refine zH .here rfl rfl rfl rfl ?_|refine zH (.there .here) rfl rfl rfl rfl ?_|refine zH (.there (.there .here)) rfl rfl rfl rfl ?_)
  refine oS (ev_load_agg (cs := [.int .u8 k.1, .string (strOf k.2)]) rfl rfl (Rdb.ofB (n := 0) .here rfl) rfl) rfl ?_
  unfold placeP
  cases hp : posN ks k 1 with
  | some n =>
    rw [hp] at hg
    refine oS (ev_lookup_ok (K := keyHs) (a := k) (zv := .int .i64 0) (r := .tuple #[.int .i64 n, .bool true]) rfl rfl rfl rfl (.there .here) (by rw [hg]; rfl)) rfl ?_
    repeat (first|refine zJ rfl rfl ?_|refine jr rfl ?_|refine jn ?_|refine zM rfl rfl ?_|(refine zC rfl rfl ?_ rfl ?_;omega)|(refine zD rfl rfl ?_ rfl ?_;omega)|(refine zP rfl ?_ rfl ?_;omega)|refine zG rfl rfl rfl rfl ?_|(refine jdq rfl rfl ?_ ?_ ?_;kernel_rfl;kernel_rfl)|refine zB rfl rfl rfl (by repeat constructor) rfl ?_|refine zH .here rfl rfl rfl rfl ?_|refine zH (.there .here) rfl rfl rfl rfl ?_|refine zH (.there (.there .here)) rfl rfl rfl rfl ?_)
    exact J_retv rfl (.tmp rfl .nil) [_] (fun w s => s.drop) (PH.ler _) ⟨rfl, rfl, rfl⟩
  | none =>
    rw [hp] at hg
    refine oS (ev_lookup_ok (K := keyHs) (a := k) (zv := .int .i64 0) (r := .tuple #[.int .i64 0, .bool false]) rfl rfl rfl rfl (.there .here) (by rw [hg]; rfl)) rfl ?_
    have hset : setK (digN ks 1) k (.int .i64 ((ks.length : Int) + 1)) = digN (ks ++ [k]) 1 := by
      have hsc : scanK k (digN ks 1) 0 = none := by
        cases hs : scanK k (digN ks 1) 0 with
        | none => rfl
        | some q => unfold getK at hg; rw [hs] at hg; cases hg
      rw [(scanK_none hsc _).1, digN_snoc]
      rw [show ((1 + ks.length : Nat) : Int) = (ks.length : Int) + 1 from by omega]
    repeat (first|refine zJ rfl rfl ?_|refine jr rfl ?_|refine jn ?_|refine zM rfl rfl ?_|(refine zC rfl rfl ?_ rfl ?_;omega)|(refine zD rfl rfl ?_ rfl ?_;omega)|(refine zP rfl ?_ rfl ?_;omega)|refine zG rfl rfl rfl rfl ?_|(refine jdq rfl rfl ?_ ?_ ?_;kernel_rfl;kernel_rfl)|refine zB rfl rfl rfl (by repeat constructor) rfl ?_|refine zH .here rfl rfl rfl rfl ?_|refine zH (.there .here) rfl rfl rfl rfl ?_|refine zH (.there (.there .here)) rfl rfl rfl rfl ?_)
    refine oS (ev_len_map (K := keyHs) rfl rfl (.there .here)) rfl ?_
    rw [digN_len]
    repeat (first|refine zJ rfl rfl ?_|refine jr rfl ?_|refine jn ?_|refine zM rfl rfl ?_|(refine zC rfl rfl ?_ rfl ?_;omega)|(refine zD rfl rfl ?_ rfl ?_;omega)|(refine zP rfl ?_ rfl ?_;omega)|refine zG rfl rfl rfl rfl ?_|(refine jdq rfl rfl ?_ ?_ ?_;kernel_rfl;kernel_rfl)|refine zB rfl rfl rfl (by repeat constructor) rfl ?_|refine zH .here rfl rfl rfl rfl ?_|refine zH (.there .here) rfl rfl rfl rfl ?_|refine zH (.there (.there .here)) rfl rfl rfl rfl ?_)
    refine oS (ev_load_agg (cs := [.int .u8 k.1, .string (strOf k.2)]) rfl rfl (Rdb.ofB (n := 0) .here rfl) rfl) rfl ?_
    repeat (first|refine zJ rfl rfl ?_|refine jr rfl ?_|refine jn ?_|refine zM rfl rfl ?_|(refine zC rfl rfl ?_ rfl ?_;omega)|(refine zD rfl rfl ?_ rfl ?_;omega)|(refine zP rfl ?_ rfl ?_;omega)|refine zG rfl rfl rfl rfl ?_|(refine jdq rfl rfl ?_ ?_ ?_;kernel_rfl;kernel_rfl)|refine zB rfl rfl rfl (by repeat constructor) rfl ?_|refine zH .here rfl rfl rfl rfl ?_|refine zH (.there .here) rfl rfl rfl rfl ?_|refine zH (.there (.there .here)) rfl rfl rfl rfl ?_)
    refine oN (ev_mapUpdate (K := keyHs) (M := digN ks 1) (b := m) (a := k) (u := .int .i64 ((ks.length : Int) + 1)) rfl rfl rfl rfl (.there .here)) rfl ?_
    rintro _ _ _ _ ⟨rfl, _, rfl⟩
    rw [hset]
    repeat (first|refine zJ rfl rfl ?_|refine jr rfl ?_|refine jn ?_|refine zM rfl rfl ?_|(refine zC rfl rfl ?_ rfl ?_;omega)|(refine zD rfl rfl ?_ rfl ?_;omega)|(refine zP rfl ?_ rfl ?_;omega)|refine zG rfl rfl rfl rfl ?_|(refine jdq rfl rfl ?_ ?_ ?_;kernel_rfl;kernel_rfl)|refine zB rfl rfl rfl (by repeat constructor) rfl ?_|refine zH .here rfl rfl rfl rfl ?_|refine zH (.there .here) rfl rfl rfl rfl ?_|refine zH (.there (.there .here)) rfl rfl rfl rfl ?_)
    exact J_retv rfl (.tmp rfl .nil) [_] (fun w s => s.drop) (PH.ler _) ⟨rfl, by simp [retV], rfl⟩
theorem dnuB_u8s (k : Int) (hk : 0 ≤ k ∧ k < 256) (n : Nat) : u8s (dnuB k n) = .int .u8 k :: (List.replicate 23 (.int .u8 0) ++ u8s (putB n 8)) := by
  have e : ((UInt8.ofNat k.toNat).toNat : Int) = k := by
    rw [UInt8.toNat_ofNat']
    omega
  unfold dnuB
  show Value.int .u8 ((UInt8.ofNat k.toNat).toNat : Int) :: u8s (List.replicate 23 0 ++ putB n 8) = _
  rw [e, u8s_append]
  rfl
set_option maxHeartbeats 4000000 in
theorem number_spec (k : Int) (n : Nat) (F : PH) (hk : 0 ≤ k ∧ k < 256) (hn : n ≤ 1000000) : Spec Try.prog 61 [.int .u8 k, .int .i64 n] F [] fun u F' H' => F = F' ∧ u = .agg (u8s (dnuB k n)).toArray ∧ H' = [] := by
  have hl8 : (putB n 8).length = 8 := putB_len (m := 8) rfl
  have h8 : (u8s (putB n 8)).length = 8 := by rw [u8s_len, hl8]
  have h32 : (u8s (dnuB k n)).length = 32 := by rw [u8s_len, dnuB_len]
  refine Spec.of2 Try.func61 rfl rfl fun X w0 => ?_
  repeat (first|refine zJ rfl rfl ?_|refine jr rfl ?_|refine jn ?_|refine zM rfl rfl ?_|(refine zC rfl rfl ?_ rfl ?_;omega)|(refine zD rfl rfl ?_ rfl ?_;omega)|(refine zP rfl ?_ rfl ?_;omega)|refine zG rfl rfl rfl rfl ?_|(refine jdq rfl rfl ?_ ?_ ?_;kernel_rfl;kernel_rfl)|refine zB rfl rfl rfl (by repeat constructor) rfl ?_|refine zH .here rfl rfl rfl rfl ?_|refine zH (.there .here) rfl rfl rfl rfl ?_|refine zH (.there (.there .here)) rfl rfl rfl rfl ?_)
  refine oE (ev_alloc (cs := u8s (List.replicate 32 0)) rfl) rfl ?_
  rintro _ _ _ _ ⟨rfl, b4, rfl, rfl⟩
  repeat (first|refine zJ rfl rfl ?_|refine jr rfl ?_|refine jn ?_|refine zM rfl rfl ?_|(refine zC rfl rfl ?_ rfl ?_;omega)|(refine zD rfl rfl ?_ rfl ?_;omega)|(refine zP rfl ?_ rfl ?_;omega)|refine zG rfl rfl rfl rfl ?_|(refine jdq rfl rfl ?_ ?_ ?_;kernel_rfl;kernel_rfl)|refine zB rfl rfl rfl (by repeat constructor) rfl ?_|refine zH .here rfl rfl rfl rfl ?_|refine zH (.there .here) rfl rfl rfl rfl ?_|refine zH (.there (.there .here)) rfl rfl rfl rfl ?_)
  refine oS (ev_build_arr (t := .int .u8 k :: List.replicate 31 (.int .u8 0)) (zs := u8s (List.replicate 32 0)) rfl rfl rfl (.cons .int rfl (by repeat constructor) .nil)) rfl ?_
  refine oE (ev_alloc (cs := u8s (List.replicate 32 0)) rfl) rfl ?_
  rintro _ _ _ _ ⟨rfl, b5, rfl, rfl⟩
  have hone : Ones (.int .u8 k :: List.replicate 31 (.int .u8 0) : List Value) := fun v hv => by
    rcases List.mem_cons.1 hv with rfl | hv
    · rfl
    · rw [List.eq_of_mem_replicate hv]; rfl
  refine oN (ev_store (b := b5) (vs := .int .u8 k :: List.replicate 31 (.int .u8 0)) rfl rfl .agg rfl rfl (lay_all (zs := u8s (List.replicate 32 0)) rfl) hone .here) rfl ?_
  rintro _ _ _ _ ⟨rfl, _, rfl⟩
  repeat (first|refine zJ rfl rfl ?_|refine jr rfl ?_|refine jn ?_|refine zM rfl rfl ?_|(refine zC rfl rfl ?_ rfl ?_;omega)|(refine zD rfl rfl ?_ rfl ?_;omega)|(refine zP rfl ?_ rfl ?_;omega)|refine zG rfl rfl rfl rfl ?_|(refine jdq rfl rfl ?_ ?_ ?_;kernel_rfl;kernel_rfl)|refine zB rfl rfl rfl (by repeat constructor) rfl ?_|refine zH .here rfl rfl rfl rfl ?_|refine zH (.there .here) rfl rfl rfl rfl ?_|refine zH (.there (.there .here)) rfl rfl rfl rfl ?_)
  refine ja F [] ?_ (fun w t => t.bare) ?_; kernel_rfl
  refine aT 0 rfl (ev_slice_arr_lo (lo := 24) rfl rfl rfl (by decide)) rfl rfl ?_ ?_ ?_ ?_; kernel_rfl; kernel_rfl; kernel_rfl
  refine aT 1 rfl (ev_qe rfl) rfl rfl ?_ ?_ ?_ ?_; kernel_rfl; kernel_rfl; kernel_rfl
  refine aT 2 rfl (ev_conv (r := (n : Int)) rfl rfl rfl (wrap_in (by dsimp only [InK]; omega))) rfl rfl ?_ ?_ ?_ ?_; kernel_rfl; kernel_rfl; kernel_rfl
  refine aB (i := 3) (by kernel_rfl) (aC (Hc := []) (Hr := blk b5 27 (.int .u8 k :: List.replicate 31 (.int .u8 0)) :: blk b4 27 (u8s (List.replicate 32 0)) :: X) rfl (put_spec none 0 n 8 [] F (SliceV.nil F 1) (Nat.le_refl _) (by omega) (by decide)) Try.call32 rfl rfl rfl (fun _ t => t) (fun _ _ _ hF hq w t => by obtain ⟨rfl, rfl⟩ := hq; exact t.bare) ?_)
  rintro u _ _ _ ⟨rfl, rfl⟩
  rw [List.nil_append]
  refine aWith (q := OwnForm u (putB n 8).length) .here OwnForm.of fun hf => ?_
  have hf' := hf
  obtain ⟨ua, uc, rfl, _⟩ := hf'
  have hlay : Lay 24 (u8s (putB n 8)) (.int .u8 k :: List.replicate 31 (.int .u8 0)) (.int .u8 k :: (List.replicate 23 (.int .u8 0) ++ u8s (putB n 8))) := by
    have h := layP (.int .u8 k :: List.replicate 23 (.int .u8 0)) (lay_all (vs := u8s (putB n 8)) (zs := List.replicate 8 (.int .u8 0)) (by rw [h8]; simp))
    exact h
  refine aB (i := 4) (by kernel_rfl) (aE rfl (ev_copy (k := 8) rfl rfl rfl (RdB.own hf .here) (u8s_ones _) (by rw [hl8]; rfl) (by rw [← h8, List.take_length]) hlay (.there .here)) rfl rfl (fun _ _ _ hF hq w t => by obtain ⟨rfl, rfl, rfl⟩ := hq; exact t.bare) ?_)
  rintro _ _ _ _ ⟨rfl, rfl, rfl⟩
  rw [← dnuB_u8s k hk n]
  refine aD (by kernel_rfl) ?_
  repeat (first|refine zJ rfl rfl ?_|refine jr rfl ?_|refine jn ?_|refine zM rfl rfl ?_|(refine zC rfl rfl ?_ rfl ?_;omega)|(refine zD rfl rfl ?_ rfl ?_;omega)|(refine zP rfl ?_ rfl ?_;omega)|refine zG rfl rfl rfl rfl ?_|(refine jdq rfl rfl ?_ ?_ ?_;kernel_rfl;kernel_rfl)|refine zB rfl rfl rfl (by repeat constructor) rfl ?_|refine zH .here rfl rfl rfl rfl ?_|refine zH (.there .here) rfl rfl rfl rfl ?_|refine zH (.there (.there .here)) rfl rfl rfl rfl ?_)
  refine oS (ev_load_agg (cs := u8s (dnuB k n)) rfl rfl (Rdb.ofB (n := 0) (.there .here) (by rw [List.drop_zero, List.take_length])) h32) rfl ?_
  refine oN (ev_store (b := b4) rfl rfl .agg rfl h32 (lay_all (zs := u8s (List.replicate 32 0)) (by rw [h32]; rfl)) (u8s_ones _) (.there (.there .here))) rfl ?_
  rintro _ _ _ _ ⟨rfl, _, rfl⟩
  repeat (first|refine zJ rfl rfl ?_|refine jr rfl ?_|refine jn ?_|refine zM rfl rfl ?_|(refine zC rfl rfl ?_ rfl ?_;omega)|(refine zD rfl rfl ?_ rfl ?_;omega)|(refine zP rfl ?_ rfl ?_;omega)|refine zG rfl rfl rfl rfl ?_|(refine jdq rfl rfl ?_ ?_ ?_;kernel_rfl;kernel_rfl)|refine zB rfl rfl rfl (by repeat constructor) rfl ?_|refine zH .here rfl rfl rfl rfl ?_|refine zH (.there .here) rfl rfl rfl rfl ?_|refine zH (.there (.there .here)) rfl rfl rfl rfl ?_)
  exact J_retv (vs := [.agg (u8s (dnuB k n)).toArray]) rfl (.agg rfl rfl (Rdb.ofB (n := 0) (.there (.there .here)) (by rw [List.drop_zero, List.take_length])) h32 .nil) [] (fun w s => s.drop.drop.drop) (PH.ler _) ⟨rfl, rfl, rfl⟩
def bkD (ks : List Hk) (k : Hk) : List UInt8 := dnuB k.1 (placeP ks k).1
set_option maxHeartbeats 4000000 in
theorem bdigest_spec (b m : Nat) (tg v : Value) (k : Int) (t : List UInt8) (ks : List Hk) (F : PH) (hk : 0 ≤ k ∧ k < 256) (hl : ks.length ≤ 100000) (h : Byt F v t) : Spec Try.prog 59 [.pointer (some ⟨b, 0, none⟩), .int .i64 k, v] F (bookA b m tg ks) fun u F' H' => F = F' ∧ u = .agg (u8s (bkD ks (k, t))).toArray ∧ H' = bookA b m tg (placeP ks (k, t)).2 := by
  obtain ⟨_, a, c, rfl, hc, _⟩ := id h
  refine Spec.of3 Try.func59 rfl rfl fun X w0 => ?_
  unfold bookA
  have h32 : (u8s (bkD ks (k, t))).length = 32 := by rw [u8s_len]; exact dnuB_len _ _
  have hpl : (placeP ks (k, t)).1 ≤ 1000000 := by
    have := posN_le _ _ (placeP_pos ks (k, t))
    obtain ⟨t', e, h1⟩ := placeP_ext ks (k, t)
    rw [e, List.length_append] at this
    omega
  repeat (first|refine zJ rfl rfl ?_|refine jr rfl ?_|refine jn ?_|refine zM rfl rfl ?_|(refine zC rfl rfl ?_ rfl ?_;omega)|(refine zD rfl rfl ?_ rfl ?_;omega)|(refine zP rfl ?_ rfl ?_;omega)|refine zG rfl rfl rfl rfl ?_|(refine jdq rfl rfl ?_ ?_ ?_;kernel_rfl;kernel_rfl)|refine zB rfl rfl rfl (by repeat constructor) rfl ?_|refine zH .here rfl rfl rfl rfl ?_|refine zH (.there .here) rfl rfl rfl rfl ?_|refine zH (.there (.there .here)) rfl rfl rfl rfl ?_)
  refine oE (ev_alloc (cs := u8s (List.replicate 32 0)) rfl) rfl ?_
  rintro _ _ _ _ ⟨rfl, b6, rfl, rfl⟩
  repeat (first|refine zJ rfl rfl ?_|refine jr rfl ?_|refine jn ?_|refine zM rfl rfl ?_|(refine zC rfl rfl ?_ rfl ?_;omega)|(refine zD rfl rfl ?_ rfl ?_;omega)|(refine zP rfl ?_ rfl ?_;omega)|refine zG rfl rfl rfl rfl ?_|(refine jdq rfl rfl ?_ ?_ ?_;kernel_rfl;kernel_rfl)|refine zB rfl rfl rfl (by repeat constructor) rfl ?_|refine zH .here rfl rfl rfl rfl ?_|refine zH (.there .here) rfl rfl rfl rfl ?_|refine zH (.there (.there .here)) rfl rfl rfl rfl ?_)
  refine ja F [blk b 75 [.map (some m), tg]] ?_ (fun w t => (t.pick (.there .here)).head) ?_; kernel_rfl
  refine aT 0 rfl (ev_qe rfl) rfl rfl ?_ ?_ ?_ ?_; kernel_rfl; kernel_rfl; kernel_rfl
  refine aT 1 rfl (ev_conv (r := k) rfl rfl rfl (wrap_in (by dsimp only [InK]; omega))) rfl rfl ?_ ?_ ?_ ?_; kernel_rfl; kernel_rfl; kernel_rfl
  refine aT 2 rfl (ev_qe rfl) rfl rfl ?_ ?_ ?_ ?_; kernel_rfl; kernel_rfl; kernel_rfl
  refine aT 3 rfl (ev_qe rfl) rfl rfl ?_ ?_ ?_ ?_; kernel_rfl; kernel_rfl; kernel_rfl
  refine aT 4 rfl (ev_qe rfl) rfl rfl ?_ ?_ ?_ ?_; kernel_rfl; kernel_rfl; kernel_rfl
  refine aT 5 rfl (ev_load (v := .map (some m)) rfl rfl (Rdb.ofB (n := 0) .here rfl)) rfl rfl ?_ ?_ ?_ ?_; kernel_rfl; kernel_rfl; kernel_rfl
  refine aT 6 rfl (ev_qe rfl) rfl rfl ?_ ?_ ?_ ?_; kernel_rfl; kernel_rfl; kernel_rfl
  refine aT 7 rfl (ev_conv (r := k) rfl rfl rfl (wrap_in (by dsimp only [InK]; omega))) rfl rfl ?_ ?_ ?_ ?_; kernel_rfl; kernel_rfl; kernel_rfl
  refine aT 8 rfl (ev_qe rfl) rfl rfl ?_ ?_ ?_ ?_; kernel_rfl; kernel_rfl; kernel_rfl
  refine aT 9 rfl (eb_string rfl h.rds) rfl rfl ?_ ?_ ?_ ?_; kernel_rfl; kernel_rfl; kernel_rfl
  refine aT 10 rfl (ev_build (t := [.int .u8 k, .string (strOf t)]) rfl rfl rfl (.cons .int rfl rfl (by repeat constructor) (.cons .string rfl rfl (by repeat constructor) .nil))) rfl rfl ?_ ?_ ?_ ?_; kernel_rfl; kernel_rfl; kernel_rfl
  refine aB (i := 11) (by kernel_rfl) (aC (Hc := [mp keyHs m (digN ks 1)]) (Hr := blk b6 28 (u8s (List.replicate 32 0)) :: blk b 75 [.map (some m), tg] :: X) rfl (place_spec m (k, t) ks F (by omega)) Try.call62 rfl rfl rfl (fun _ t => t.pm 3 [2, 0, 1] rfl rfl) (fun _ _ _ hF hq w t => by obtain ⟨rfl, rfl, rfl⟩ := hq; exact (t.pm 3 [2, 0, 1] rfl rfl).head) ?_)
  rintro _ _ _ _ ⟨rfl, rfl, rfl⟩
  refine aB (i := 12) (by kernel_rfl) (aC (Hc := []) (Hr := mp keyHs m (digN (placeP ks (k, t)).2 1) :: blk b6 28 (u8s (List.replicate 32 0)) :: blk b 75 [.map (some m), tg] :: X) rfl (number_spec k (placeP ks (k, t)).1 F hk hpl) Try.call61 rfl rfl rfl (fun _ t => t) (fun _ _ _ hF hq w t => by obtain ⟨rfl, rfl, rfl⟩ := hq; exact (t.pm 3 [2, 0, 1] rfl rfl).head) ?_)
  rintro _ _ _ _ ⟨rfl, rfl, rfl⟩
  refine aB (i := 13) (by kernel_rfl) (aN rfl (ev_store (b := b6) (vs := u8s (bkD ks (k, t))) rfl rfl .agg rfl h32 (lay_all (zs := u8s (List.replicate 32 0)) (by rw [h32]; rfl)) (u8s_ones _) (.there .here)) rfl (fun _ _ _ hF hq w t => by obtain ⟨rfl, _, rfl⟩ := hq; exact (t.pm 3 [2, 0, 1] rfl rfl).head) ?_)
  rintro _ _ _ _ ⟨rfl, _, rfl⟩
  refine aD (by kernel_rfl) ?_
  repeat (first|refine zJ rfl rfl ?_|refine jr rfl ?_|refine jn ?_|refine zM rfl rfl ?_|(refine zC rfl rfl ?_ rfl ?_;omega)|(refine zD rfl rfl ?_ rfl ?_;omega)|(refine zP rfl ?_ rfl ?_;omega)|refine zG rfl rfl rfl rfl ?_|(refine jdq rfl rfl ?_ ?_ ?_;kernel_rfl;kernel_rfl)|refine zB rfl rfl rfl (by repeat constructor) rfl ?_|refine zH .here rfl rfl rfl rfl ?_|refine zH (.there .here) rfl rfl rfl rfl ?_|refine zH (.there (.there .here)) rfl rfl rfl rfl ?_)
  exact J_retv (vs := [.agg (u8s (bkD ks (k, t))).toArray]) rfl (.agg rfl rfl (Rdb.ofB (n := 0) (.there .here) (by rw [List.drop_zero, List.take_length])) h32 .nil) (bookA b m tg (placeP ks (k, t)).2) (fun w s => (s.pm 3 [1, 2, 0] rfl rfl).drop) (PH.ler _) ⟨rfl, rfl, rfl⟩
theorem bnew_spec (F : PH) : Spec Try.prog 18 [] F [] fun u F' H' => F = F' ∧ ∃ b m tg, u = .pointer (some ⟨b, 0, none⟩) ∧ H' = bookA b m tg [] := by
  refine Spec.of0 Try.func18 rfl fun X w0 => ?_
  repeat (first|refine zJ rfl rfl ?_|refine jr rfl ?_|refine jn ?_|refine zM rfl rfl ?_|(refine zC rfl rfl ?_ rfl ?_;omega)|(refine zD rfl rfl ?_ rfl ?_;omega)|(refine zP rfl ?_ rfl ?_;omega)|refine zG rfl rfl rfl rfl ?_|(refine jdq rfl rfl ?_ ?_ ?_;kernel_rfl;kernel_rfl)|refine zB rfl rfl rfl (by repeat constructor) rfl ?_|refine zH .here rfl rfl rfl rfl ?_|refine zH (.there .here) rfl rfl rfl rfl ?_|refine zH (.there (.there .here)) rfl rfl rfl rfl ?_)
  refine oE (ev_makeMap (K := keyHs)) rfl ?_
  rintro _ _ _ _ ⟨rfl, m, rfl, rfl⟩
  refine oE (ev_makeMap (K := keyHs)) rfl ?_
  rintro _ _ _ _ ⟨rfl, m2, rfl, rfl⟩
  repeat (first|refine zJ rfl rfl ?_|refine jr rfl ?_|refine jn ?_|refine zM rfl rfl ?_|(refine zC rfl rfl ?_ rfl ?_;omega)|(refine zD rfl rfl ?_ rfl ?_;omega)|(refine zP rfl ?_ rfl ?_;omega)|refine zG rfl rfl rfl rfl ?_|(refine jdq rfl rfl ?_ ?_ ?_;kernel_rfl;kernel_rfl)|refine zB rfl rfl rfl (by repeat constructor) rfl ?_|refine zH .here rfl rfl rfl rfl ?_|refine zH (.there .here) rfl rfl rfl rfl ?_|refine zH (.there (.there .here)) rfl rfl rfl rfl ?_)
  refine oE (ev_box rfl .agg) rfl ?_; rintro _ _ _ _ ⟨rfl, b, rfl, rfl⟩
  repeat (first|refine zJ rfl rfl ?_|refine jr rfl ?_|refine jn ?_|refine zM rfl rfl ?_|(refine zC rfl rfl ?_ rfl ?_;omega)|(refine zD rfl rfl ?_ rfl ?_;omega)|(refine zP rfl ?_ rfl ?_;omega)|refine zG rfl rfl rfl rfl ?_|(refine jdq rfl rfl ?_ ?_ ?_;kernel_rfl;kernel_rfl)|refine zB rfl rfl rfl (by repeat constructor) rfl ?_|refine zH .here rfl rfl rfl rfl ?_|refine zH (.there .here) rfl rfl rfl rfl ?_|refine zH (.there (.there .here)) rfl rfl rfl rfl ?_)
  exact J_retv rfl (.tmp rfl .nil) (bookA b m (.map (some m2)) []) (fun w s => (s.pm 3 [1, 0, 2] rfl rfl).drop) (PH.ler _) ⟨rfl, b, m, .map (some m2), rfl, rfl⟩
end Go.Proofs.Ytohlmhoacjodjaa