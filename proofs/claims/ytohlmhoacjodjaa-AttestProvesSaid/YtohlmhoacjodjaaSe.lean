/-
  The sum of bytes as a plain function. Conditions are typed with each.
  A hash that takes in bytes: New, Len, Add. Conditions are typed with each.
-/
import Derived.Test.YtohlmhoacjodjaaSc
import Derived.Test.YtohlmhoacjodjaaOc
import Derived.Test.YtohlmhoacjodjaaOd
import Derived.Lib.Hide
namespace Go.Proofs.Ytohlmhoacjodjaa
open Go.RowKit
set_option maxRecDepth 100000
def h0 : S8 := ⟨0x6a09e667#32, 0xbb67ae85#32, 0x3c6ef372#32, 0xa54ff53a#32, 0x510e527f#32, 0x9b05688c#32, 0x1f83d9ab#32, 0x5be0cd19#32⟩
def feedN : Nat → S8 → List UInt8 → S8
  | 0, s, _ => s
  | n + 1, s, bs => feedN n (comp s bs) (bs.drop 64)
theorem wordB_app {xs : List UInt8} (ys : List UInt8) {i : Nat} (h : 4 * i + 4 ≤ xs.length) : wordB (xs ++ ys) i = wordB xs i := by
  unfold wordB
  rw [List.drop_append_of_le_length (by omega), List.take_append_of_le_length (by rw [List.length_drop]; omega)]
theorem sch_app {xs : List UInt8} (ys : List UInt8) (h : 64 ≤ xs.length) : ∀ i, sch (xs ++ ys) i = sch xs i
  | 0 => rfl
  | i + 1 => by
    rw [sch_succ, sch_succ, sch_app ys h i]
    congr 2
    unfold nextW
    by_cases hi : i < 16
    · rw [if_pos hi, if_pos hi, wordB_app ys (by omega)]
    · rw [if_neg hi, if_neg hi]
theorem comp_app {xs : List UInt8} (s : S8) (ys : List UInt8) (h : 64 ≤ xs.length) : comp s (xs ++ ys) = comp s xs := by
  unfold comp; rw [sch_app ys h]
theorem feedN_app : ∀ (n : Nat) (s : S8) (xs ys : List UInt8), 64 * n ≤ xs.length → feedN n s (xs ++ ys) = feedN n s xs
  | 0, _, _, _, _ => rfl
  | n + 1, s, xs, ys, h => by
    show feedN n (comp s (xs ++ ys)) ((xs ++ ys).drop 64) = feedN n (comp s xs) (xs.drop 64)
    rw [comp_app s ys (by omega), List.drop_append_of_le_length (by omega), feedN_app n _ _ _ (by rw [List.length_drop]; omega)]
theorem feedN_succ : ∀ (n : Nat) (s : S8) (xs : List UInt8), feedN (n + 1) s xs = comp (feedN n s xs) (xs.drop (64 * n))
  | 0, _, _ => rfl
  | n + 1, s, xs => by
    show feedN (n + 1) (comp s xs) (xs.drop 64) = comp (feedN n (comp s xs) (xs.drop 64)) _
    rw [feedN_succ n, List.drop_drop, show 64 + 64 * n = 64 * (n + 1) from by omega]
theorem feedN_plus : ∀ (m n : Nat) (s : S8) (xs : List UInt8), feedN (m + n) s xs = feedN n (feedN m s xs) (xs.drop (64 * m))
  | m, 0, _, _ => rfl
  | m, n + 1, s, xs => by
    rw [← Nat.add_assoc, feedN_succ, feedN_plus m n, feedN_succ, List.drop_drop, show 64 * (m + n) = 64 * m + 64 * n from by omega]
theorem S8.ll (s s' : S8) : s.l.length = s'.l.length := by simp [S8.l]
/-- The blocks that are whole, and what is left. -/
def stB (t : List UInt8) : S8 := feedN (t.length / 64) h0 t
def restB (t : List UInt8) : List UInt8 := t.drop (64 * (t.length / 64))
theorem restB_len (t : List UInt8) : (restB t).length = t.length % 64 := by unfold restB; rw [List.length_drop]; omega
def zerosN (n : Nat) : Nat := (119 - n % 64) % 64
/-- What stands behind the bytes. -/
def tailB (n : Nat) : List UInt8 := [128] ++ List.replicate (zerosN n) 0 ++ putB (8 * n) 8
theorem tailB_len (n : Nat) : (tailB n).length = 9 + zerosN n := by
  have h : (putB (8 * n) 8).length = 8 := putB_len (m := 8) rfl
  unfold tailB
  rw [List.length_append, List.length_append, h]
  simp; omega
def digB (s : S8) : List UInt8 := (s.l.map fun w => putB w.toNat 4).flatten
/-- The sum. -/
def sumB (t : List UInt8) : List UInt8 := digB (feedN ((restB t ++ tailB t.length).length / 64) (stB t) (restB t ++ tailB t.length))
theorem flat_get {α : Type} {n : Nat} : ∀ {css : List (List α)} {i k : Nat} {c : List α}, (∀ c ∈ css, c.length = n) → css[i]? = some c → k < n → css.flatten[n * i + k]? = c[k]?
  | [], i, k, c, _, h, _ => by simp at h
  | d :: css, 0, k, c, h, hi, hk => by
    have hd := h d List.mem_cons_self
    have : d = c := by simpa using hi
    subst this
    rw [List.flatten_cons, Nat.mul_zero, Nat.zero_add, List.getElem?_append_left (by omega)]
  | d :: css, i + 1, k, c, h, hi, hk => by
    have hd := h d List.mem_cons_self
    rw [List.flatten_cons, List.getElem?_append_right (by rw [hd, Nat.mul_succ]; omega), hd, show n * (i + 1) + k - n = n * i + k from by rw [Nat.mul_succ]; omega]
    exact flat_get (fun c hc => h c (List.mem_cons_of_mem _ hc)) (by simpa using hi) hk
theorem digB_len (s : S8) : (digB s).length = 32 := by
  have h : ∀ w : W, (putB w.toNat 4).length = 4 := fun w => putB_len (m := 4) rfl
  simp [digB, S8.l, h]
theorem digB_at {s : S8} {i k : Nat} {x : W} (hi : s.l[i]? = some x) (hk : k < 4) : (digB s)[4 * i + k]? = some (UInt8.ofNat (x.toNat >>> (24 - 8 * k))) := by
  unfold digB
  rw [flat_get (n := 4) (c := putB x.toNat 4) (fun c hc => by obtain ⟨w, _, rfl⟩ := List.mem_map.1 hc; exact putB_len (m := 4) rfl) (by rw [List.getElem?_map, hi]; rfl) hk]
  have := putB_at (v := x.toNat) (m := 4) (j := k) rfl hk
  rw [show 8 * (4 - 1 - k) = 24 - 8 * k from by omega] at this
  exact this
def wrS32 (bs : List UInt8) (i : Nat) : List Value := u8s (bs.take i) ++ List.replicate (32 - i) (.int .u8 0)
theorem wrS32_set {bs : List UInt8} {i : Nat} {c : UInt8} (hl : bs.length ≤ 32) (hi : bs[i]? = some c) : (wrS32 bs i).set i (.int .u8 (c.toNat : Int)) = wrS32 bs (i + 1) := by
  have hlt := (List.getElem?_eq_some_iff.1 hi).1
  have h1 : (u8s (bs.take i)).length = i := by rw [u8s_len, List.length_take]; omega
  unfold wrS32
  rw [List.set_append_right _ _ (by omega), h1, Nat.sub_self, show 32 - i = (32 - (i + 1)) + 1 from by omega, List.replicate_succ, List.set_cons_zero, take_snoc hi, u8s_append, List.append_assoc]
  rfl
theorem wrS32_len {bs : List UInt8} {i : Nat} (hl : bs.length ≤ 32) (hi : i ≤ bs.length) : (wrS32 bs i).length = 32 := by
  unfold wrS32; rw [List.length_append, u8s_len]; simp; omega
theorem wrS32_full {bs : List UInt8} (h : bs.length = 32) : wrS32 bs 32 = u8s bs := by
  unfold wrS32; rw [List.take_of_length_le (by omega)]; simp
theorem wrS32_lay {bs : List UInt8} {i : Nat} {c : UInt8} (hl : bs.length ≤ 32) (hi : bs[i]? = some c) : Lay (0 + i * 1) [.int .u8 (c.toNat : Int)] (wrS32 bs i) (wrS32 bs (i + 1)) := by
  have hlt := (List.getElem?_eq_some_iff.1 hi).1
  rw [Nat.zero_add, Nat.mul_one, ← wrS32_set hl hi]
  exact lay_set _ (by rw [wrS32_len hl (by omega)]; omega)
end Go.Proofs.Ytohlmhoacjodjaa
namespace Go.Proofs.Ytohlmhoacjodjaa
open Go.RowKit
set_option maxRecDepth 100000
def hcell (s : S8) (vr : Value) (n : Int) : List Value := [w32 s.a, w32 s.b, w32 s.c, w32 s.d, w32 s.e, w32 s.f, w32 s.g, w32 s.h, vr, .int .i64 n]
abbrev hblk (b : Nat) (s : S8) (vr : Value) (n : Int) : Asrt := blk b 119 (hcell s vr n)
/-- A hash that has taken in t. -/
abbrev hashA (b : Nat) (vr : Value) (t : List UInt8) : List Asrt := [hblk b (stB t) vr t.length, bytes vr (restB t)]
theorem new_spec (F : PH) : Spec Try.prog 65 [] F [] fun u F' H' => F.le F' ∧ ∃ b, u = .pointer (some ⟨b, 0, none⟩) ∧ H' = hashA b (.slice none 0 0) [] := by
  refine Spec.of0 Try.func65 rfl fun X w0 => ?_
  repeat (first|refine zJ rfl rfl ?_|refine jr rfl ?_|refine jn ?_|refine zM rfl rfl ?_|(refine zC rfl rfl ?_ rfl ?_;omega)|(refine zD rfl rfl ?_ rfl ?_;omega)|(refine zP rfl ?_ rfl ?_;omega)|refine zG rfl rfl rfl rfl ?_|(refine jdq rfl rfl ?_ ?_ ?_;kernel_rfl;kernel_rfl)|refine zB rfl rfl rfl (by repeat constructor) rfl ?_)
  refine oP (first_spec F) Try.call68 rfl rfl ?_
  refine oS (ev_build (t := hcell h0 (.slice none 0 0) 0) rfl rfl rfl (FillF.cons (vs := w32s hW) .agg rfl rfl (.put (.put (.put (.put (.put (.put (.put (.put .nil)))))))) .nil)) rfl ?_
  refine oE (ev_box rfl .agg) rfl ?_; rintro _ _ _ _ ⟨rfl, b, rfl, rfl⟩
  repeat (first|refine zJ rfl rfl ?_|refine jr rfl ?_|refine jn ?_|refine zM rfl rfl ?_|(refine zC rfl rfl ?_ rfl ?_;omega)|(refine zD rfl rfl ?_ rfl ?_;omega)|(refine zP rfl ?_ rfl ?_;omega)|refine zG rfl rfl rfl rfl ?_|(refine jdq rfl rfl ?_ ?_ ?_;kernel_rfl;kernel_rfl)|refine zB rfl rfl rfl (by repeat constructor) rfl ?_)
  refine J_own_nil 5 1 ?_
  exact J_retv (vs := [.pointer (some ⟨b, 0, none⟩)]) rfl (.tmp rfl .nil) (hashA b (.slice none 0 0) []) (fun w s => s.pick (.there .here)) (PH.ler _) ⟨PH.ler _, b, rfl, rfl⟩
set_option maxHeartbeats 1000000 in
theorem add_nil (v : Value) (F : PH) : Pure Try.prog 66 [.pointer none, v] F (.tuple #[]) := by
  refine Spec.of2 Try.func66 rfl rfl fun X w0 => ?_
  repeat (first|refine zJ rfl rfl ?_|refine jr rfl ?_|refine jn ?_|refine zM rfl rfl ?_|(refine zC rfl rfl ?_ rfl ?_;omega)|(refine zD rfl rfl ?_ rfl ?_;omega)|(refine zP rfl ?_ rfl ?_;omega)|refine zG rfl rfl rfl rfl ?_|(refine jdq rfl rfl ?_ ?_ ?_;kernel_rfl;kernel_rfl)|refine zB rfl rfl rfl (by repeat constructor) rfl ?_|refine zH .here rfl rfl rfl rfl ?_|refine zH (.there .here) rfl rfl rfl rfl ?_|refine zH (.there (.there .here)) rfl rfl rfl rfl ?_)
  exact J_retv (vs := []) rfl .nil [] (fun w s => s) (PH.ler _) ⟨rfl, rfl⟩
theorem hcell_load (s : S8) (vr : Value) (n : Int) : ((hcell s vr n).drop 0).take (w32s s.l).length = w32s s.l := rfl
theorem hcell_lay (s s' : S8) (vr : Value) (n : Int) : Lay 0 (w32s s'.l) (hcell s vr n) (hcell s' vr n) := .put (.put (.put (.put (.put (.put (.put (.put .nil)))))))
set_option maxHeartbeats 8000000 in
theorem add_spec (b : Nat) (vr : Value) (t bs : List UInt8) (v : Value) (F : PH) (h : Byt F v bs) (ht : t.length + bs.length ≤ 1099511627776) :
    Spec Try.prog 66 [.pointer (some ⟨b, 0, none⟩), v] F (hashA b vr t) fun u F' H' => F.le F' ∧ ∃ vr', H' = hashA b vr' (t ++ bs) := by
  obtain ⟨a, c, rfl, hc⟩ := h.form
  have hrl := restB_len t
  refine Spec.of2 Try.func66 rfl rfl fun X w0 => ?_
  show J _ _ _ _ (hblk b (stB t) vr t.length :: bytes vr (restB t) :: X)
  refine jWith (.there .here) OwnForm.of fun hfx => ?_
  obtain ⟨ar, cr, rfl, hcr, _, _⟩ := hfx
  repeat (first|refine zJ rfl rfl ?_|refine jr rfl ?_|refine jn ?_|refine zM rfl rfl ?_|(refine zC rfl rfl ?_ rfl ?_;omega)|(refine zD rfl rfl ?_ rfl ?_;omega)|(refine zP rfl ?_ rfl ?_;omega)|refine zG rfl rfl rfl rfl ?_|(refine jdq rfl rfl ?_ ?_ ?_;kernel_rfl;kernel_rfl)|refine zB rfl rfl rfl (by repeat constructor) rfl ?_|refine zH .here rfl rfl rfl rfl ?_|refine zH (.there .here) rfl rfl rfl rfl ?_|refine zH (.there (.there .here)) rfl rfl rfl rfl ?_)
  refine oN (ev_store (b := b) rfl rfl .int rfl rfl (.skip (.skip (.skip (.skip (.skip (.skip (.skip (.skip (.skip (.put .nil)))))))))) (ones_cons rfl ones_nil) .here) rfl ?_
  rintro _ _ _ _ ⟨rfl, _, rfl⟩
  repeat (first|refine zJ rfl rfl ?_|refine jr rfl ?_|refine jn ?_|refine zM rfl rfl ?_|(refine zC rfl rfl ?_ rfl ?_;omega)|(refine zD rfl rfl ?_ rfl ?_;omega)|(refine zP rfl ?_ rfl ?_;omega)|refine zG rfl rfl rfl rfl ?_|(refine jdq rfl rfl ?_ ?_ ?_;kernel_rfl;kernel_rfl)|refine zB rfl rfl rfl (by repeat constructor) rfl ?_|refine zH .here rfl rfl rfl rfl ?_|refine zH (.there .here) rfl rfl rfl rfl ?_|refine zH (.there (.there .here)) rfl rfl rfl rfl ?_)
  refine oE (eb_append (bs := restB t) (K := fun v' => hblk b (stB t) (.slice ar (restB t).length cr) ((t.length : Int) + (bs.length : Int)) :: bytes v' (restB t ++ bs) :: X) rfl rfl h.rds (by omega) (fun v' => .there .here)) rfl ?_
  rintro u _ _ _ ⟨rfl, _, rfl⟩
  refine oWith (.there .here) OwnForm.of fun hfx => ?_
  obtain ⟨ax, cx, rfl, hcx, _, _⟩ := hfx
  refine oPick (.there .here) (oPersist fun h1 hA1 hd1 => ?_)
  have hp := bytes_byt hA1 hd1
  have hle := PH.le_l F h1
  generalize F.un h1 = F1 at *
  have hT : restB t ++ bs = (t ++ bs).drop (64 * (t.length / 64)) := by
    unfold restB; rw [List.drop_append_of_le_length (by omega)]
  have hst : stB t = feedN (t.length / 64) h0 (t ++ bs) := by
    unfold stB; rw [feedN_app _ _ _ _ (by omega)]
  have hrT := restB_len (t ++ bs)
  have hTl : (t ++ bs).length = t.length + bs.length := List.length_append
  rw [hst]
  rw [hT] at hp hcx ⊢
  have hml : t.length / 64 ≤ (t ++ bs).length / 64 := by omega
  generalize t.length / 64 = m0 at *
  repeat (first|refine zJ rfl rfl ?_|refine jr rfl ?_|refine jn ?_|refine zM rfl rfl ?_|(refine zC rfl rfl ?_ rfl ?_;omega)|(refine zD rfl rfl ?_ rfl ?_;omega)|(refine zP rfl ?_ rfl ?_;omega)|refine zG rfl rfl rfl rfl ?_|(refine jdq rfl rfl ?_ ?_ ?_;kernel_rfl;kernel_rfl)|refine zB rfl rfl rfl (by repeat constructor) rfl ?_|refine zH .here rfl rfl rfl rfl ?_|refine zH (.there .here) rfl rfl rfl rfl ?_|refine zH (.there (.there .here)) rfl rfl rfl rfl ?_)
  refine J_loop3 (fun (m : Nat) (v : Value) (G : PH) => m ≤ (t ++ bs).length / 64 ∧ F1.le G ∧ Byt G v ((t ++ bs).drop (64 * m))) (fun m _ _ => (t ++ bs).length / 64 - m)
    (fun m v _ => [(0, .pointer (some ⟨b, 0, none⟩)), (4, v)]) (fun _ _ G => G)
    (fun m v _ => hblk b (feedN m h0 (t ++ bs)) (.slice ar (restB t).length cr) ((t.length : Int) + (bs.length : Int)) :: X) m0 _ F1 ⟨hml, PH.ler _, hp⟩ ⟨⟨rfl, rfl, trivial⟩, fun w s => s⟩ ?_
  rintro m v G ⟨hm, hG, hv⟩
  obtain ⟨a1, c1, rfl, hc1⟩ := hv.form
  have hdl : ((t ++ bs).drop (64 * m)).length = (t ++ bs).length - 64 * m := List.length_drop
  by_cases hgo : m < (t ++ bs).length / 64
  · have h64 : 64 ≤ ((t ++ bs).drop (64 * m)).length := by omega
    have hf := feedN_succ m h0 (t ++ bs)
    repeat (first|refine zJ rfl rfl ?_|refine jr rfl ?_|refine jn ?_|refine zM rfl rfl ?_|(refine zC rfl rfl ?_ rfl ?_;omega)|(refine zD rfl rfl ?_ rfl ?_;omega)|(refine zP rfl ?_ rfl ?_;omega)|refine zG rfl rfl rfl rfl ?_|(refine jdq rfl rfl ?_ ?_ ?_;kernel_rfl;kernel_rfl)|refine zB rfl rfl rfl (by repeat constructor) rfl ?_|refine zH .here rfl rfl rfl rfl ?_|refine zH (.there .here) rfl rfl rfl rfl ?_|refine zH (.there (.there .here)) rfl rfl rfl rfl ?_)
    refine oS (ev_load_agg (cs := w32s (feedN m h0 (t ++ bs)).l) rfl rfl (Rdb.ofB (n := 0) .here (hcell_load _ _ _)) rfl) rfl ?_
    repeat (first|refine zJ rfl rfl ?_|refine jr rfl ?_|refine jn ?_|refine zM rfl rfl ?_|(refine zC rfl rfl ?_ rfl ?_;omega)|(refine zD rfl rfl ?_ rfl ?_;omega)|(refine zP rfl ?_ rfl ?_;omega)|refine zG rfl rfl rfl rfl ?_|(refine jdq rfl rfl ?_ ?_ ?_;kernel_rfl;kernel_rfl)|refine zB rfl rfl rfl (by repeat constructor) rfl ?_|refine zH .here rfl rfl rfl rfl ?_|refine zH (.there .here) rfl rfl rfl rfl ?_|refine zH (.there (.there .here)) rfl rfl rfl rfl ?_)
    refine oP (block_spec (feedN m h0 (t ++ bs)) a1 c1 _ G hv hc1 h64 (by omega)) Try.call69 rfl rfl ?_
    rw [← hf]
    repeat (first|refine zJ rfl rfl ?_|refine jr rfl ?_|refine jn ?_|refine zM rfl rfl ?_|(refine zC rfl rfl ?_ rfl ?_;omega)|(refine zD rfl rfl ?_ rfl ?_;omega)|(refine zP rfl ?_ rfl ?_;omega)|refine zG rfl rfl rfl rfl ?_|(refine jdq rfl rfl ?_ ?_ ?_;kernel_rfl;kernel_rfl)|refine zB rfl rfl rfl (by repeat constructor) rfl ?_|refine zH .here rfl rfl rfl rfl ?_|refine zH (.there .here) rfl rfl rfl rfl ?_|refine zH (.there (.there .here)) rfl rfl rfl rfl ?_)
    refine oN (ev_store (b := b) rfl rfl .agg rfl rfl (hcell_lay _ _ _ _) (w32s_ones _) .here) rfl ?_
    rintro _ _ _ _ ⟨rfl, _, rfl⟩
    repeat (first|refine zJ rfl rfl ?_|refine jr rfl ?_|refine jn ?_|refine zM rfl rfl ?_|(refine zC rfl rfl ?_ rfl ?_;omega)|(refine zD rfl rfl ?_ rfl ?_;omega)|(refine zP rfl ?_ rfl ?_;omega)|refine zG rfl rfl rfl rfl ?_|(refine jdq rfl rfl ?_ ?_ ?_;kernel_rfl;kernel_rfl)|refine zB rfl rfl rfl (by repeat constructor) rfl ?_|refine zH .here rfl rfl rfl rfl ?_|refine zH (.there .here) rfl rfl rfl rfl ?_|refine zH (.there (.there .here)) rfl rfl rfl rfl ?_)
    refine oS (ev_slice_lo (lo := 64) rfl rfl rfl (by omega)) rfl ?_
    have hs := hv.suf (k := 64) (by omega) hc1
    rw [List.drop_drop, show 64 * m + 64 = 64 * (m + 1) from by omega] at hs
    repeat (first|refine zJ rfl rfl ?_|refine jr rfl ?_|refine jn ?_|refine zM rfl rfl ?_|(refine zC rfl rfl ?_ rfl ?_;omega)|(refine zD rfl rfl ?_ rfl ?_;omega)|(refine zP rfl ?_ rfl ?_;omega)|refine zG rfl rfl rfl rfl ?_|(refine jdq rfl rfl ?_ ?_ ?_;kernel_rfl;kernel_rfl)|refine zB rfl rfl rfl (by repeat constructor) rfl ?_|refine zH .here rfl rfl rfl rfl ?_|refine zH (.there .here) rfl rfl rfl rfl ?_|refine zH (.there (.there .here)) rfl rfl rfl rfl ?_)
    refine J_again3 (m + 1) _ G ⟨hgo, hG, hs⟩ (by omega) ⟨⟨rfl, rfl, trivial⟩, fun w s => s⟩
  · obtain rfl : m = (t ++ bs).length / 64 := by omega
    repeat (first|refine zJ rfl rfl ?_|refine jr rfl ?_|refine jn ?_|refine zM rfl rfl ?_|(refine zC rfl rfl ?_ rfl ?_;omega)|(refine zD rfl rfl ?_ rfl ?_;omega)|(refine zP rfl ?_ rfl ?_;omega)|refine zG rfl rfl rfl rfl ?_|(refine jdq rfl rfl ?_ ?_ ?_;kernel_rfl;kernel_rfl)|refine zB rfl rfl rfl (by repeat constructor) rfl ?_|refine zH .here rfl rfl rfl rfl ?_|refine zH (.there .here) rfl rfl rfl rfl ?_|refine zH (.there (.there .here)) rfl rfl rfl rfl ?_)
    refine oE eb_empty rfl ?_
    rintro _ _ _ _ ⟨rfl, ⟨b0, rfl⟩, rfl⟩
    repeat (first|refine zJ rfl rfl ?_|refine jr rfl ?_|refine jn ?_|refine zM rfl rfl ?_|(refine zC rfl rfl ?_ rfl ?_;omega)|(refine zD rfl rfl ?_ rfl ?_;omega)|(refine zP rfl ?_ rfl ?_;omega)|refine zG rfl rfl rfl rfl ?_|(refine jdq rfl rfl ?_ ?_ ?_;kernel_rfl;kernel_rfl)|refine zB rfl rfl rfl (by repeat constructor) rfl ?_|refine zH .here rfl rfl rfl rfl ?_|refine zH (.there .here) rfl rfl rfl rfl ?_|refine zH (.there (.there .here)) rfl rfl rfl rfl ?_)
    refine oE (eb_append (bs := []) (cs := restB (t ++ bs)) (K := fun v' => bytes v' (restB (t ++ bs)) :: hblk b (stB (t ++ bs)) (.slice ar (restB t).length cr) ((t.length : Int) + (bs.length : Int)) :: X) rfl rfl hv.rds (by simp; omega) (fun v' => .here)) rfl ?_
    rintro qu _ _ _ ⟨rfl, _, rfl⟩
    refine oWith .here OwnForm.of fun hfx => ?_
    obtain ⟨ay, cy, rfl, hcy, _, _⟩ := hfx
    repeat (first|refine zJ rfl rfl ?_|refine jr rfl ?_|refine jn ?_|refine zM rfl rfl ?_|(refine zC rfl rfl ?_ rfl ?_;omega)|(refine zD rfl rfl ?_ rfl ?_;omega)|(refine zP rfl ?_ rfl ?_;omega)|refine zG rfl rfl rfl rfl ?_|(refine jdq rfl rfl ?_ ?_ ?_;kernel_rfl;kernel_rfl)|refine zB rfl rfl rfl (by repeat constructor) rfl ?_|refine zH .here rfl rfl rfl rfl ?_|refine zH (.there .here) rfl rfl rfl rfl ?_|refine zH (.there (.there .here)) rfl rfl rfl rfl ?_)
    refine oN (ev_store (b := b) rfl rfl .slice rfl rfl (.skip (.skip (.skip (.skip (.skip (.skip (.skip (.skip (.put .nil))))))))) (ones_cons rfl ones_nil) (.there .here)) rfl ?_
    rintro _ _ _ _ ⟨rfl, _, rfl⟩
    repeat (first|refine zJ rfl rfl ?_|refine jr rfl ?_|refine jn ?_|refine zM rfl rfl ?_|(refine zC rfl rfl ?_ rfl ?_;omega)|(refine zD rfl rfl ?_ rfl ?_;omega)|(refine zP rfl ?_ rfl ?_;omega)|refine zG rfl rfl rfl rfl ?_|(refine jdq rfl rfl ?_ ?_ ?_;kernel_rfl;kernel_rfl)|refine zB rfl rfl rfl (by repeat constructor) rfl ?_|refine zH .here rfl rfl rfl rfl ?_|refine zH (.there .here) rfl rfl rfl rfl ?_|refine zH (.there (.there .here)) rfl rfl rfl rfl ?_)
    refine J_end rfl (hashA b (.slice ay (restB (t ++ bs)).length cy) (t ++ bs)) (fun w s => ?_) (hle.trans hG) ⟨hle.trans hG, _, rfl⟩
    have s' := s.pick (.there .here)
    dsimp only [hashA, hblk]
    rw [hTl, Int.natCast_add]
    exact s'
end Go.Proofs.Ytohlmhoacjodjaa
