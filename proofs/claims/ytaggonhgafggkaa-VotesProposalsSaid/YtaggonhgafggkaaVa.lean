/-
  What replicas say: its cells and its bytes, the program's and the document's. Conditions are typed with each.
  The bytes of what replicas say, the program's and the document's. Conditions are typed with each. (Printed by wip/gen/vb.py.)
  Numbers and digests read, and what is asked of them, by the program and by the document. Conditions are typed with each.
-/
import Derived.Test.YtaggonhgafggkaaRk
namespace Go.Proofs.Ytaggonhgafggkaa
open Go.RowKit
set_option maxRecDepth 100000
/-- A vote: view, number, digest. -/
structure Vt where
  view : Int
  seq : Int
  dig : List UInt8
def Vt.cells (x : Vt) : List Value := .int .i64 x.view :: .int .i64 x.seq :: u8s x.dig
def zDig : List UInt8 := List.replicate 32 0
def Vt.zero : Vt := ⟨0, 0, zDig⟩
/-- A vouching: client, stamp, digest, mask. -/
structure Vo where
  client : Int
  stamp : Int
  dig : List UInt8
  mask : Nat
def Vo.cells (x : Vo) : List Value := .int .i64 x.client :: .int .i64 x.stamp :: (u8s x.dig ++ [Value.int .u32 x.mask])
def Vo.zero : Vo := ⟨0, 0, zDig, 0⟩
/-- A reply: view, client, stamp, result. -/
structure Rp where
  view : Int
  client : Int
  stamp : Int
  result : Int
def Rp.cells (x : Rp) : List Value := [.int .i64 x.view, .int .i64 x.client, .int .i64 x.stamp, .int .i64 x.result]
def Rp.zero : Rp := ⟨0, 0, 0, 0⟩
theorem Vt.len {x : Vt} (h : x.dig.length = 32) : x.cells.length = 34 := by unfold Vt.cells; simp [u8s, h]
theorem Vo.len {x : Vo} (h : x.dig.length = 32) : x.cells.length = 35 := by unfold Vo.cells; simp [u8s, h]
theorem Rp.len (x : Rp) : x.cells.length = 4 := rfl
theorem Vt.ones (x : Vt) : Ones x.cells := ones_cons rfl (ones_cons rfl (u8s_ones _))
theorem Vo.ones (x : Vo) : Ones x.cells := ones_cons rfl (ones_cons rfl (ones_append (u8s_ones _) (ones_cons rfl ones_nil)))
theorem Rp.ones (x : Rp) : Ones x.cells := by unfold Rp.cells; (repeat (first | exact ones_nil | refine ones_cons rfl ?_))
theorem Vt.dig_at (x : Vt) : (x.cells.drop 2).take (u8s x.dig).length = u8s x.dig := by show (u8s x.dig).take (u8s x.dig).length = _; rw [List.take_length]
theorem Vo.dig_at (x : Vo) : (x.cells.drop 2).take (u8s x.dig).length = u8s x.dig := by show (u8s x.dig ++ [Value.int .u32 x.mask]).take (u8s x.dig).length = _; rw [List.take_left]
theorem Vo.mask_at {x : Vo} (h : x.dig.length = 32) : (x.cells.drop 34).take 1 = [Value.int .u32 x.mask] := by
  show ((u8s x.dig ++ [Value.int .u32 x.mask]).drop 32).take 1 = _
  rw [show 32 = (u8s x.dig).length from by rw [u8s_len, h], List.drop_left]
  rfl
def Vt.bytes (x : Vt) : List UInt8 := putB (uN x.view) 8 ++ putB (uN x.seq) 8 ++ x.dig
def Vo.bytes (x : Vo) : List UInt8 := putB (uN x.client) 1 ++ putB (uN x.stamp) 8 ++ x.dig ++ putB x.mask 1
def Rp.bytes (x : Rp) : List UInt8 := putB (uN x.view) 8 ++ putB (uN x.client) 1 ++ putB (uN x.stamp) 8 ++ putB (uN x.result) 1
def i64s (xs : List Int) : List Value := xs.map fun x => Value.int .i64 x
def longB (xs : List Int) : List UInt8 := xs.flatMap fun x => putB (uN x) 8
theorem i64_at {F : PH} {a : Option Addr} {n c i : Nat} {xs : List Int} {x : Int} (h : SliceV F 1 (.slice a n c) n (i64s xs)) (hi : xs[i]? = some x) : ∃ b off, a = some ⟨b, off, none⟩ ∧ Cells F b (off + i * 1) [.int .i64 x] ∧ i < n := by
  obtain ⟨hl, a', c', e, _, h2⟩ := h
  cases e
  have hlt := (List.getElem?_eq_some_iff.1 hi).1
  have hn : xs.length = n := by simpa [i64s] using hl
  obtain ⟨b, off, rfl, hc⟩ := h2 (by omega)
  refine ⟨b, off, rfl, ?_, by omega⟩
  rw [Nat.mul_one]
  exact hc.one i (by unfold i64s; rw [List.getElem?_map, hi]; rfl)
set_option maxHeartbeats 8000000 in
theorem long_spec (v vs : Value) (xs : List Int) (bs : List UInt8) (F : PH) (h : Byt F v bs) (h2 : SliceV F 1 vs xs.length (i64s xs)) (hx : 0 < xs.length) (hxl : xs.length ≤ 1024) (hl : bs.length ≤ 1048576) :
    Spec Try.prog 43 [v, vs] F [] fun u F' H' => H' = [bytes u (bs ++ longB xs)] := by
  obtain ⟨hl2, sa, cs, rfl, hn, hcc⟩ := h2
  have h2 : SliceV F 1 (.slice sa xs.length cs) xs.length (i64s xs) := ⟨hl2, sa, cs, rfl, hn, hcc⟩
  clear hcc hl2
  refine Spec.of2 Try.func43 rfl rfl fun X w0 => ?_
  repeat (first|refine zJ rfl rfl ?_|refine jr rfl ?_|refine jn ?_|refine zM rfl rfl ?_|(refine zC rfl rfl ?_ rfl ?_;omega)|(refine zD rfl rfl ?_ rfl ?_;omega)|(refine zP rfl ?_ rfl ?_;omega)|refine zG rfl rfl rfl rfl ?_|(refine jdq rfl rfl ?_ ?_ ?_;kernel_rfl;kernel_rfl)|refine zB rfl rfl rfl (by repeat constructor) rfl ?_|refine zH .here rfl rfl rfl rfl ?_|refine zH (.there .here) rfl rfl rfl rfl ?_|refine zH (.there (.there .here)) rfl rfl rfl rfl ?_)
  refine J_loop (ι := Nat × Value × PH) (fun i => i.1 ≤ xs.length ∧ F.le i.2.2 ∧ (i.1 = 0 → Byt i.2.2 i.2.1 bs)) (fun i => xs.length - i.1) (fun i => [(0, i.2.1), (7, .slice sa xs.length cs), (8, .int .i64 xs.length), (9, .int .i64 i.1)]) (fun i => i.2.2)
    (fun i => (match i.1 with | 0 => [] | _ + 1 => [bytes i.2.1 (bs ++ longB (xs.take i.1))]) ++ X) (0, v, F) ⟨Nat.zero_le _, PH.ler _, fun _ => h⟩ ⟨⟨rfl, rfl, rfl, rfl, trivial⟩, fun w s => s⟩ ?_
  rintro ⟨i, u, G⟩ ⟨hi, hG, hu⟩
  dsimp only at hi hG hu
  by_cases hil : i < xs.length
  · have hg : xs[i]? = some xs[i] := List.getElem?_eq_getElem hil
    have hsn : longB (xs.take (i + 1)) = longB (xs.take i) ++ putB (uN xs[i]) 8 := flatMap_snoc hg
    obtain ⟨b, off, rfl, hcc, _⟩ := i64_at (h2.mono hG) hg
    have hll : (longB (xs.take i)).length ≤ 1024 * 8 := by
      have := flatMap_len (f := fun x => putB (uN x) 8) (k := 8) (l := xs.take i) fun x _ => by rw [pl8]; exact Nat.le_refl _
      have h3 : (xs.take i).length * 8 ≤ 1024 * 8 := Nat.mul_le_mul_right _ (by rw [List.length_take]; omega)
      exact Nat.le_trans this h3
    generalize xs[i] = x at *
    cases i with
    | zero =>
      obtain ⟨a, c, rfl, hc⟩ := (hu rfl).form
      repeat (first|refine zJ rfl rfl ?_|refine jr rfl ?_|refine jn ?_|refine zM rfl rfl ?_|(refine zC rfl rfl ?_ rfl ?_;omega)|(refine zD rfl rfl ?_ rfl ?_;omega)|(refine zP rfl ?_ rfl ?_;omega)|refine zG rfl rfl rfl rfl ?_|(refine jdq rfl rfl ?_ ?_ ?_;kernel_rfl;kernel_rfl)|refine zB rfl rfl rfl (by repeat constructor) rfl ?_|refine zH .here rfl rfl rfl rfl ?_|refine zH (.there .here) rfl rfl rfl rfl ?_|refine zH (.there (.there .here)) rfl rfl rfl rfl ?_)
      refine oS (ev_indexAddr (i := 0) rfl rfl rfl hil) rfl ?_
      refine oS (ev_load rfl rfl (Rdb.ofF hcc)) rfl ?_
      repeat (first|refine zJ rfl rfl ?_|refine jr rfl ?_|refine jn ?_|refine zM rfl rfl ?_|(refine zC rfl rfl ?_ rfl ?_;omega)|(refine zD rfl rfl ?_ rfl ?_;omega)|(refine zP rfl ?_ rfl ?_;omega)|refine zG rfl rfl rfl rfl ?_|(refine jdq rfl rfl ?_ ?_ ?_;kernel_rfl;kernel_rfl)|refine zB rfl rfl rfl (by repeat constructor) rfl ?_|refine zH .here rfl rfl rfl rfl ?_|refine zH (.there .here) rfl rfl rfl rfl ?_|refine zH (.there (.there .here)) rfl rfl rfl rfl ?_)
      refine oS (ev_conv rfl rfl rfl (uN_wrap _)) rfl ?_
      refine oC (Hc := []) (Hr := X) (put_spec a c (uN x) 8 bs G (hu rfl) hc (uN_lt _) (by omega)) Try.call44 rfl rfl (fun _ s => s) ?_
      rintro u1 _ _ _ ⟨rfl, rfl⟩
      repeat (first|refine zJ rfl rfl ?_|refine jr rfl ?_|refine jn ?_|refine zM rfl rfl ?_|(refine zC rfl rfl ?_ rfl ?_;omega)|(refine zD rfl rfl ?_ rfl ?_;omega)|(refine zP rfl ?_ rfl ?_;omega)|refine zG rfl rfl rfl rfl ?_|(refine jdq rfl rfl ?_ ?_ ?_;kernel_rfl;kernel_rfl)|refine zB rfl rfl rfl (by repeat constructor) rfl ?_|refine zH .here rfl rfl rfl rfl ?_|refine zH (.there .here) rfl rfl rfl rfl ?_|refine zH (.there (.there .here)) rfl rfl rfl rfl ?_)
      refine J_again (1, u1, G) ⟨hil, hG, fun h => by cases h⟩ (by dsimp only; omega) ⟨⟨rfl, rfl, rfl, rfl, trivial⟩, fun w s => ?_⟩
      dsimp only
      rw [hsn]
      exact s
    | succ k =>
      repeat (first|refine zJ rfl rfl ?_|refine jr rfl ?_|refine jn ?_|refine zM rfl rfl ?_|(refine zC rfl rfl ?_ rfl ?_;omega)|(refine zD rfl rfl ?_ rfl ?_;omega)|(refine zP rfl ?_ rfl ?_;omega)|refine zG rfl rfl rfl rfl ?_|(refine jdq rfl rfl ?_ ?_ ?_;kernel_rfl;kernel_rfl)|refine zB rfl rfl rfl (by repeat constructor) rfl ?_|refine zH .here rfl rfl rfl rfl ?_|refine zH (.there .here) rfl rfl rfl rfl ?_|refine zH (.there (.there .here)) rfl rfl rfl rfl ?_)
      refine oS (ev_indexAddr (i := k + 1) rfl rfl rfl hil) rfl ?_
      refine oS (ev_load rfl rfl (Rdb.ofF hcc)) rfl ?_
      repeat (first|refine zJ rfl rfl ?_|refine jr rfl ?_|refine jn ?_|refine zM rfl rfl ?_|(refine zC rfl rfl ?_ rfl ?_;omega)|(refine zD rfl rfl ?_ rfl ?_;omega)|(refine zP rfl ?_ rfl ?_;omega)|refine zG rfl rfl rfl rfl ?_|(refine jdq rfl rfl ?_ ?_ ?_;kernel_rfl;kernel_rfl)|refine zB rfl rfl rfl (by repeat constructor) rfl ?_|refine zH .here rfl rfl rfl rfl ?_|refine zH (.there .here) rfl rfl rfl rfl ?_|refine zH (.there (.there .here)) rfl rfl rfl rfl ?_)
      refine oS (ev_conv rfl rfl rfl (uN_wrap _)) rfl ?_
      refine oPersist fun h1 hA1 hd1 => ?_
      have hbv := bytes_byt hA1 hd1
      dsimp only at hbv
      have hle := PH.le_l G h1
      generalize hG1 : PH.un (k + 1, u, G).2.2 h1 = G1 at *
      replace hle : G.le G1 := by rw [← hG1]; exact PH.le_l _ _
      obtain ⟨av, cv, rfl, hcv⟩ := hbv.form
      refine oC (Hc := []) (Hr := X) (put_spec av cv (uN x) 8 _ G1 hbv hcv (uN_lt _) (by rw [List.length_append]; omega)) Try.call44 rfl rfl (fun _ s => s) ?_
      rintro u1 _ _ _ ⟨rfl, rfl⟩
      repeat (first|refine zJ rfl rfl ?_|refine jr rfl ?_|refine jn ?_|refine zM rfl rfl ?_|(refine zC rfl rfl ?_ rfl ?_;omega)|(refine zD rfl rfl ?_ rfl ?_;omega)|(refine zP rfl ?_ rfl ?_;omega)|refine zG rfl rfl rfl rfl ?_|(refine jdq rfl rfl ?_ ?_ ?_;kernel_rfl;kernel_rfl)|refine zB rfl rfl rfl (by repeat constructor) rfl ?_|refine zH .here rfl rfl rfl rfl ?_|refine zH (.there .here) rfl rfl rfl rfl ?_|refine zH (.there (.there .here)) rfl rfl rfl rfl ?_)
      refine J_again (k + 2, u1, G1) ⟨hil, hG.trans hle, fun h => by cases h⟩ (by dsimp only; omega) ⟨⟨rfl, rfl, rfl, rfl, trivial⟩, fun w s => ?_⟩
      dsimp only
      rw [hsn, ← List.append_assoc]
      exact s
  · obtain rfl : i = xs.length := by omega
    obtain ⟨k, hk⟩ : ∃ k, xs.length = k + 1 := ⟨xs.length - 1, by omega⟩
    refine J_weak (H' := bytes u (bs ++ longB xs) :: X) ?_ (fun w s => by
      have e : xs.take xs.length = xs := List.take_length
      dsimp only at s
      rw [e] at s
      rw [hk] at s
      exact s)
    repeat (first|refine zJ rfl rfl ?_|refine jr rfl ?_|refine jn ?_|refine zM rfl rfl ?_|(refine zC rfl rfl ?_ rfl ?_;omega)|(refine zD rfl rfl ?_ rfl ?_;omega)|(refine zP rfl ?_ rfl ?_;omega)|refine zG rfl rfl rfl rfl ?_|(refine jdq rfl rfl ?_ ?_ ?_;kernel_rfl;kernel_rfl)|refine zB rfl rfl rfl (by repeat constructor) rfl ?_|refine zH .here rfl rfl rfl rfl ?_|refine zH (.there .here) rfl rfl rfl rfl ?_|refine zH (.there (.there .here)) rfl rfl rfl rfl ?_)
    exact J_retv rfl (.tmp rfl .nil) [bytes u (bs ++ longB xs)] (fun w s => s) hG rfl
theorem SliceV.of_blk {F h : PH} {b n : Nat} {E : TypeId} {xs : List Int} (hA : blk b E (i64s xs) h) (hd : F.dj h) (hn : xs.length = n) : SliceV (F.un h) 1 (.slice (some ⟨b, 0, none⟩) n n) n (i64s xs) :=
  ⟨by unfold i64s; rw [List.length_map]; omega, _, _, rfl, Nat.le_refl _, fun _ => ⟨b, 0, rfl, blk_cells hA hd⟩⟩
set_option maxHeartbeats 8000000 in
theorem Digest_spec (v : Value) (bs d : List UInt8) (F : PH) (h : Byt F v bs) (hd : d.length = 32) (hl : bs.length ≤ 1048576) :
    Spec Try.prog 45 [v, .agg (u8s d).toArray] F [] fun u F' H' => H' = [] ∧ Byt F' u (bs ++ d) := by
  obtain ⟨a, c, rfl, hc⟩ := h.form
  refine Spec.of2 Try.func45 rfl rfl fun X w0 => ?_
  refine jc rfl rfl ?_
  refine jr rfl ?_
  refine oE (ev_box rfl .agg) rfl ?_; rintro _ _ _ _ ⟨rfl, b, rfl, rfl⟩
  repeat (first|refine zJ rfl rfl ?_|refine jr rfl ?_|refine jn ?_|refine zM rfl rfl ?_|(refine zC rfl rfl ?_ rfl ?_;omega)|(refine zD rfl rfl ?_ rfl ?_;omega)|(refine zP rfl ?_ rfl ?_;omega)|refine zG rfl rfl rfl rfl ?_|(refine jdq rfl rfl ?_ ?_ ?_;kernel_rfl;kernel_rfl)|refine zB rfl rfl rfl (by repeat constructor) rfl ?_|refine zH .here rfl rfl rfl rfl ?_|refine zH (.there .here) rfl rfl rfl rfl ?_|refine zH (.there (.there .here)) rfl rfl rfl rfl ?_)
  refine oE eb_empty rfl ?_
  rintro u _ _ _ ⟨rfl, ⟨b1, rfl⟩, rfl⟩
  repeat (first|refine zJ rfl rfl ?_|refine jr rfl ?_|refine jn ?_|refine zM rfl rfl ?_|(refine zC rfl rfl ?_ rfl ?_;omega)|(refine zD rfl rfl ?_ rfl ?_;omega)|(refine zP rfl ?_ rfl ?_;omega)|refine zG rfl rfl rfl rfl ?_|(refine jdq rfl rfl ?_ ?_ ?_;kernel_rfl;kernel_rfl)|refine zB rfl rfl rfl (by repeat constructor) rfl ?_|refine zH .here rfl rfl rfl rfl ?_|refine zH (.there .here) rfl rfl rfl rfl ?_|refine zH (.there (.there .here)) rfl rfl rfl rfl ?_)
  refine oE (eb_append (bs := []) (cs := bs) (K := fun v' => bytes v' bs :: blk b 23 (u8s d) :: X) rfl rfl h.rds (by simp; omega) (fun v' => .here)) rfl ?_
  rintro u _ _ _ ⟨rfl, _, rfl⟩
  repeat (first|refine zJ rfl rfl ?_|refine jr rfl ?_|refine jn ?_|refine zM rfl rfl ?_|(refine zC rfl rfl ?_ rfl ?_;omega)|(refine zD rfl rfl ?_ rfl ?_;omega)|(refine zP rfl ?_ rfl ?_;omega)|refine zG rfl rfl rfl rfl ?_|(refine jdq rfl rfl ?_ ?_ ?_;kernel_rfl;kernel_rfl)|refine zB rfl rfl rfl (by repeat constructor) rfl ?_|refine zH .here rfl rfl rfl rfl ?_|refine zH (.there .here) rfl rfl rfl rfl ?_|refine zH (.there (.there .here)) rfl rfl rfl rfl ?_)
  refine oS (ev_load_agg (cs := u8s d) rfl rfl (Rdb.ofB (n := 0) (.there .here) (by rw [List.drop_zero, List.take_length])) (by rw [u8s_len]; exact hd)) rfl ?_
  repeat (first|refine zJ rfl rfl ?_|refine jr rfl ?_|refine jn ?_|refine zM rfl rfl ?_|(refine zC rfl rfl ?_ rfl ?_;omega)|(refine zD rfl rfl ?_ rfl ?_;omega)|(refine zP rfl ?_ rfl ?_;omega)|refine zG rfl rfl rfl rfl ?_|(refine jdq rfl rfl ?_ ?_ ?_;kernel_rfl;kernel_rfl)|refine zB rfl rfl rfl (by repeat constructor) rfl ?_|refine zH .here rfl rfl rfl rfl ?_|refine zH (.there .here) rfl rfl rfl rfl ?_|refine zH (.there (.there .here)) rfl rfl rfl rfl ?_)
  refine J_loop (ι := Nat × Value) (fun y => y.1 ≤ 32) (fun y => 32 - y.1) (fun y => [(5, y.2), (11, .agg (u8s d).toArray), (12, .int .i64 y.1)]) (fun _ => F) (fun y => bytes y.2 (bs ++ d.take y.1) :: blk b 23 (u8s d) :: X) (0, u) (Nat.zero_le _) ⟨⟨rfl, rfl, rfl, trivial⟩, fun w s => ?_⟩ ?_
  · dsimp only
    rw [List.take_zero, List.append_nil]
    exact s
  rintro ⟨y, u6⟩ hy
  dsimp only at hy
  by_cases hyl : y < 32
  · have hgy : d[y]? = some (d[y]'(by omega)) := List.getElem?_eq_getElem _
    have hty := take_snoc hgy
    generalize d[y]'(by omega) = x at *
    repeat (first|refine zJ rfl rfl ?_|refine jr rfl ?_|refine jn ?_|refine zM rfl rfl ?_|(refine zC rfl rfl ?_ rfl ?_;omega)|(refine zD rfl rfl ?_ rfl ?_;omega)|(refine zP rfl ?_ rfl ?_;omega)|refine zG rfl rfl rfl rfl ?_|(refine jdq rfl rfl ?_ ?_ ?_;kernel_rfl;kernel_rfl)|refine zB rfl rfl rfl (by repeat constructor) rfl ?_|refine zH .here rfl rfl rfl rfl ?_|refine zH (.there .here) rfl rfl rfl rfl ?_|refine zH (.there (.there .here)) rfl rfl rfl rfl ?_)
    refine oS (ev_index_arr (xs := d) (i := y) (c := x) rfl rfl rfl rfl hd hgy) rfl ?_
    repeat (first|refine zJ rfl rfl ?_|refine jr rfl ?_|refine jn ?_|refine zM rfl rfl ?_|(refine zC rfl rfl ?_ rfl ?_;omega)|(refine zD rfl rfl ?_ rfl ?_;omega)|(refine zP rfl ?_ rfl ?_;omega)|refine zG rfl rfl rfl rfl ?_|(refine jdq rfl rfl ?_ ?_ ?_;kernel_rfl;kernel_rfl)|refine zB rfl rfl rfl (by repeat constructor) rfl ?_|refine zH .here rfl rfl rfl rfl ?_|refine zH (.there .here) rfl rfl rfl rfl ?_|refine zH (.there (.there .here)) rfl rfl rfl rfl ?_)
    refine ob_push (bs := bs ++ d.take y) (b := x) (K := fun v' => bytes v' (bs ++ d.take y ++ [x]) :: blk b 23 (u8s d) :: X) rfl (fun _ => rfl) rfl (by rw [List.length_append, List.length_take]; omega) (fun v' => .here) rfl (fun _ => rfl) ?_
    intro u' w'
    repeat (first|refine zJ rfl rfl ?_|refine jr rfl ?_|refine jn ?_|refine zM rfl rfl ?_|(refine zC rfl rfl ?_ rfl ?_;omega)|(refine zD rfl rfl ?_ rfl ?_;omega)|(refine zP rfl ?_ rfl ?_;omega)|refine zG rfl rfl rfl rfl ?_|(refine jdq rfl rfl ?_ ?_ ?_;kernel_rfl;kernel_rfl)|refine zB rfl rfl rfl (by repeat constructor) rfl ?_|refine zH .here rfl rfl rfl rfl ?_|refine zH (.there .here) rfl rfl rfl rfl ?_|refine zH (.there (.there .here)) rfl rfl rfl rfl ?_)
    refine J_again (y + 1, u') hyl (by dsimp only; omega) ⟨⟨rfl, rfl, rfl, trivial⟩, fun w s => ?_⟩
    dsimp only
    rw [hty, ← List.append_assoc]
    exact s
  · obtain rfl : y = 32 := by omega
    have ht32 : d.take 32 = d := List.take_of_length_le (by omega)
    dsimp only
    rw [ht32]
    repeat (first|refine zJ rfl rfl ?_|refine jr rfl ?_|refine jn ?_|refine zM rfl rfl ?_|(refine zC rfl rfl ?_ rfl ?_;omega)|(refine zD rfl rfl ?_ rfl ?_;omega)|(refine zP rfl ?_ rfl ?_;omega)|refine zG rfl rfl rfl rfl ?_|(refine jdq rfl rfl ?_ ?_ ?_;kernel_rfl;kernel_rfl)|refine zB rfl rfl rfl (by repeat constructor) rfl ?_|refine zH .here rfl rfl rfl rfl ?_|refine zH (.there .here) rfl rfl rfl rfl ?_|refine zH (.there (.there .here)) rfl rfl rfl rfl ?_)
    refine J_persist fun h1 hA1 hd1 => ?_
    exact J_retv rfl (.tmp rfl .nil) [] (fun w s => s.drop) (PH.le_l _ _) ⟨rfl, bytes_byt hA1 hd1⟩
end Go.Proofs.Ytaggonhgafggkaa
namespace Go.Proofs.Ytaggonhgafggkaa
open Go.RowKit
set_option maxRecDepth 100000
theorem rdb_dig {F : PH} {H Hr : List Asrt} {b off : Nat} {E : TypeId} {r : List Value} {d : List UInt8} (p : Pick (blk b E r) H Hr) (hd : d.length = 32) (ht : (r.drop off).take (u8s d).length = u8s d) : RdB F H (.slice (some ⟨b, off, none⟩) 32 32) d := by
  show RdS F H 1 _ d.length (u8s d)
  rw [hd]
  exact RdS.blk p (by rw [u8s_len, hd]) ht (Nat.le_refl _)
theorem aFH' {C : Ctx} {ops : Array Oper} {fuel : Nat} {listed : Array Bool} {k : List KItem} {l : Env} {F Fs : PH} {A : Asrt} {H : List Asrt} (hF : Fs.le F) (h : JA C (Sat F H) ops fuel listed k l F (A :: H)) : JA C (Sat Fs H) ops fuel listed k l F (A :: H) := aS F H (fun _ s => s.mono hF) (fun _ s => s.drop) h
set_option maxHeartbeats 16000000 in
theorem vote_spec (x : Vt) (F : PH) (hd : x.dig.length = 32) : Spec Try.prog 10 [.agg x.cells.toArray] F [] fun u F' H' => H' = [] ∧ Byt F' u x.bytes := by
  refine Spec.of1 Try.func10 rfl rfl fun X w0 => ?_
  refine jc rfl rfl ?_
  refine jr rfl ?_
  refine oE (ev_box rfl .agg) rfl ?_; rintro _ _ _ _ ⟨rfl, b, rfl, rfl⟩
  repeat (first|refine zJ rfl rfl ?_|refine jr rfl ?_|refine jn ?_|refine zM rfl rfl ?_|(refine zC rfl rfl ?_ rfl ?_;omega)|(refine zD rfl rfl ?_ rfl ?_;omega)|(refine zP rfl ?_ rfl ?_;omega)|refine zG rfl rfl rfl rfl ?_|(refine jdq rfl rfl ?_ ?_ ?_;kernel_rfl;kernel_rfl)|refine zB rfl rfl rfl (by repeat constructor) rfl ?_|refine zH .here rfl rfl rfl rfl ?_|refine zH (.there .here) rfl rfl rfl rfl ?_|refine zH (.there (.there .here)) rfl rfl rfl rfl ?_)
  refine ja F (blk b 25 x.cells :: X) ?_ ?_ ?_; kernel_rfl
  · exact fun w s => s
  refine aT 0 rfl (ev_fieldAddr rfl rfl) rfl rfl ?_ ?_ ?_ ?_; kernel_rfl; kernel_rfl; kernel_rfl
  refine aT 1 rfl (ev_load rfl rfl (Rdb.ofB (n := 0) .here rfl)) rfl rfl ?_ ?_ ?_ ?_; kernel_rfl; kernel_rfl; kernel_rfl
  refine aT 2 rfl (ev_fieldAddr rfl rfl) rfl rfl ?_ ?_ ?_ ?_; kernel_rfl; kernel_rfl; kernel_rfl
  refine aT 3 rfl (ev_load rfl rfl (Rdb.ofB (n := 0) .here rfl)) rfl rfl ?_ ?_ ?_ ?_; kernel_rfl; kernel_rfl; kernel_rfl
  refine aT 6 rfl (ev_fieldAddr rfl rfl) rfl rfl ?_ ?_ ?_ ?_; kernel_rfl; kernel_rfl; kernel_rfl
  refine aT 7 rfl (ev_slice_arr rfl rfl) rfl rfl ?_ ?_ ?_ ?_; kernel_rfl; kernel_rfl; kernel_rfl
  refine aB (i := 4) (by kernel_rfl) (aE rfl (ev_buildSlice (E := 2) (zs := [.int .i64 0]) (t := [.int .i64 x.view, .int .i64 x.seq]) rfl rfl rfl rfl rfl rfl (by repeat constructor)) rfl rfl (fun _ _ _ _ hq w s => by obtain ⟨rfl, _, rfl, rfl⟩ := hq; exact s.drop) ?_)
  rintro _ _ _ _ ⟨rfl, bs1, rfl, rfl⟩
  refine aPersist fun hp1 hpA1 hpd1 => ?_
  have hs1 := SliceV.of_blk (xs := [x.view, x.seq]) hpA1 hpd1 rfl
  have hG1 := PH.le_l F hp1
  refine aFH hG1 ?_
  generalize PH.un F hp1 = G1 at *
  refine aB (i := 5) (by kernel_rfl) (aC (Hc := []) (Hr := blk b 25 x.cells :: X) rfl (long_spec _ _ [x.view, x.seq] [] G1 (Byt.nil G1) hs1 (by simp) (by simp) (by simp)) Try.call43 rfl rfl rfl (fun _ s => s) (fun _ _ _ hF hq w s => by subst hq; exact s.drop.mono hF) ?_)
  rintro u2 F2 _ hF2 rfl
  refine aB (i := 8) (by kernel_rfl) (aE rfl (eb_append (bs := [] ++ longB [x.view, x.seq]) (cs := x.dig) (K := fun v' => bytes v' ([] ++ longB [x.view, x.seq] ++ x.dig) :: blk b 25 x.cells :: X) rfl rfl (rdb_dig (.there .here) hd x.dig_at) (by simp [longB, pl8, hd]) (fun v' => .here)) rfl rfl (fun _ _ _ _ hq w s => by obtain ⟨rfl, _, rfl⟩ := hq; exact s.drop.mono hF2) ?_)
  rintro u3 _ _ _ ⟨rfl, _, rfl⟩
  refine aT 9 rfl (ev_pv rfl) rfl rfl ?_ ?_ ?_ ?_; kernel_rfl; kernel_rfl; kernel_rfl
  refine aD (by kernel_rfl) ?_
  repeat (first|refine zJ rfl rfl ?_|refine jr rfl ?_|refine jn ?_|refine zM rfl rfl ?_|(refine zC rfl rfl ?_ rfl ?_;omega)|(refine zD rfl rfl ?_ rfl ?_;omega)|(refine zP rfl ?_ rfl ?_;omega)|refine zG rfl rfl rfl rfl ?_|(refine jdq rfl rfl ?_ ?_ ?_;kernel_rfl;kernel_rfl)|refine zB rfl rfl rfl (by repeat constructor) rfl ?_|refine zH .here rfl rfl rfl rfl ?_|refine zH (.there .here) rfl rfl rfl rfl ?_|refine zH (.there (.there .here)) rfl rfl rfl rfl ?_)
  refine J_persist fun h1 hA1 hd1 => ?_
  have hb := bytes_byt hA1 hd1
  rw [show [] ++ longB [x.view, x.seq] ++ x.dig = x.bytes from by simp [longB, Vt.bytes]] at hb
  exact J_retv rfl (.tmp rfl .nil) [] (fun w s => s.drop) (hG1.trans (hF2.trans (PH.le_l _ _))) ⟨rfl, hb⟩
set_option maxHeartbeats 16000000 in
theorem vouching_spec (x : Vo) (F : PH) (hd : x.dig.length = 32) (hm : x.mask < 4294967296) : Spec Try.prog 11 [.agg x.cells.toArray] F [] fun u F' H' => H' = [] ∧ Byt F' u x.bytes := by
  refine Spec.of1 Try.func11 rfl rfl fun X w0 => ?_
  refine jc rfl rfl ?_
  refine jr rfl ?_
  refine oE (ev_box rfl .agg) rfl ?_; rintro _ _ _ _ ⟨rfl, b, rfl, rfl⟩
  repeat (first|refine zJ rfl rfl ?_|refine jr rfl ?_|refine jn ?_|refine zM rfl rfl ?_|(refine zC rfl rfl ?_ rfl ?_;omega)|(refine zD rfl rfl ?_ rfl ?_;omega)|(refine zP rfl ?_ rfl ?_;omega)|refine zG rfl rfl rfl rfl ?_|(refine jdq rfl rfl ?_ ?_ ?_;kernel_rfl;kernel_rfl)|refine zB rfl rfl rfl (by repeat constructor) rfl ?_|refine zH .here rfl rfl rfl rfl ?_|refine zH (.there .here) rfl rfl rfl rfl ?_|refine zH (.there (.there .here)) rfl rfl rfl rfl ?_)
  refine J_join [_] (fun i : Value × PH => F.le i.2) (fun i => [(1, .pointer (some ⟨b, 0, none⟩)), (3, i.1)]) (fun i => i.2) (fun i => bytes i.1 (putB (uN x.client) 1 ++ longB [x.stamp] ++ x.dig) :: blk b 28 x.cells :: X) ?_ ?_
  · refine ja F (blk b 28 x.cells :: X) ?_ ?_ ?_; kernel_rfl
    · exact fun w s => s
    refine aT 0 rfl (ev_fieldAddr rfl rfl) rfl rfl ?_ ?_ ?_ ?_; kernel_rfl; kernel_rfl; kernel_rfl
    refine aT 1 rfl (ev_load rfl rfl (Rdb.ofB (n := 0) .here rfl)) rfl rfl ?_ ?_ ?_ ?_; kernel_rfl; kernel_rfl; kernel_rfl
    refine aT 2 rfl (ev_conv rfl rfl rfl (uN_wrap _)) rfl rfl ?_ ?_ ?_ ?_; kernel_rfl; kernel_rfl; kernel_rfl
    refine aT 4 rfl (ev_fieldAddr rfl rfl) rfl rfl ?_ ?_ ?_ ?_; kernel_rfl; kernel_rfl; kernel_rfl
    refine aT 5 rfl (ev_load rfl rfl (Rdb.ofB (n := 0) .here rfl)) rfl rfl ?_ ?_ ?_ ?_; kernel_rfl; kernel_rfl; kernel_rfl
    refine aT 8 rfl (ev_fieldAddr rfl rfl) rfl rfl ?_ ?_ ?_ ?_; kernel_rfl; kernel_rfl; kernel_rfl
    refine aT 9 rfl (ev_slice_arr rfl rfl) rfl rfl ?_ ?_ ?_ ?_; kernel_rfl; kernel_rfl; kernel_rfl
    refine aB2 (i := 3) (i' := 6) (by kernel_rfl) ?_ ?_
    · refine aC (Hc := []) (Hr := blk b 28 x.cells :: X) rfl (put_p _ _ _ [] F (Byt.nil F) (uN_lt _) (by simp)) Try.call44 rfl rfl rfl (fun _ s => s) (fun _ _ _ hF hq w s => by obtain ⟨e, _⟩ := hq; subst e; exact s.mono hF) ?_; rintro u2 F2 _ hF2 ⟨rfl, h2⟩; refine aFH hF2 ?_
      replace h2 : Byt F2 u2 (putB (uN x.client) 1) := h2
      refine aB (i := 6) (by kernel_rfl) (aE rfl (ev_buildSlice (E := 2) (zs := [.int .i64 0]) (t := [.int .i64 x.stamp]) rfl rfl rfl rfl rfl rfl (by repeat constructor)) rfl rfl (fun _ _ _ _ hq w s => by obtain ⟨rfl, _, rfl, rfl⟩ := hq; exact s.drop) ?_)
      rintro _ _ _ _ ⟨rfl, bs1, rfl, rfl⟩
      refine aPersist fun hp1 hpA1 hpd1 => ?_
      have hs1 := SliceV.of_blk (xs := [x.stamp]) hpA1 hpd1 rfl
      have hG1 := PH.le_l F2 hp1
      refine aFH hG1 ?_
      generalize PH.un F2 hp1 = G1 at *
      have hs1' := hs1
      refine aB (i := 7) (by kernel_rfl) (aC (Hc := []) (Hr := blk b 28 x.cells :: X) rfl (long_spec _ _ [x.stamp] (putB (uN x.client) 1) G1 (SliceV.mono h2 hG1) hs1' (by simp) (by simp) (by rw [pl1]; decide)) Try.call43 rfl rfl rfl (fun _ s => s) (fun _ _ _ hF hq w s => by subst hq; exact s.drop.mono hF) ?_)
      rintro u3 F3 _ hF3 rfl
      refine aB (i := 10) (by kernel_rfl) (aE rfl (eb_append (bs := putB (uN x.client) 1 ++ longB [x.stamp]) (cs := x.dig) (K := fun v' => bytes v' (putB (uN x.client) 1 ++ longB [x.stamp] ++ x.dig) :: blk b 28 x.cells :: X) rfl rfl (rdb_dig (.there .here) hd x.dig_at) (by simp [longB, pl8, pl1, hd]) (fun v' => .here)) rfl rfl (fun _ _ _ _ hq w s => by obtain ⟨rfl, _, rfl⟩ := hq; exact s.drop.mono hF3) ?_)
      rintro u4 _ _ _ ⟨rfl, _, rfl⟩
      refine aT 11 rfl (ev_pv rfl) rfl rfl ?_ ?_ ?_ ?_; kernel_rfl; kernel_rfl; kernel_rfl
      refine aD (by kernel_rfl) ?_
      exact J_joined (u4, F3) (hF2.trans (hG1.trans hF3)) ⟨⟨rfl, rfl, trivial⟩, fun w s => s⟩
    · refine (aE rfl (ev_buildSlice (E := 2) (zs := [.int .i64 0]) (t := [.int .i64 x.stamp]) rfl rfl rfl rfl rfl rfl (by repeat constructor)) rfl rfl (fun _ _ _ _ hq w s => by obtain ⟨rfl, _, rfl, rfl⟩ := hq; exact s.drop) ?_)
      rintro _ _ _ _ ⟨rfl, bs1, rfl, rfl⟩
      refine aPersist fun hp1 hpA1 hpd1 => ?_
      have hs1 := SliceV.of_blk (xs := [x.stamp]) hpA1 hpd1 rfl
      have hG1 := PH.le_l F hp1
      refine aFH hG1 ?_
      generalize PH.un F hp1 = G1 at *
      refine aB (i := 3) (by kernel_rfl) ?_
      refine aC (Hc := []) (Hr := blk b 28 x.cells :: X) rfl (put_p _ _ _ [] G1 (Byt.nil G1) (uN_lt _) (by simp)) Try.call44 rfl rfl rfl (fun _ s => s) (fun _ _ _ hF hq w s => by obtain ⟨e, _⟩ := hq; subst e; exact s.mono hF) ?_; rintro u2 F2 _ hF2 ⟨rfl, h2⟩; refine aFH hF2 ?_
      replace h2 : Byt F2 u2 (putB (uN x.client) 1) := h2
      have hs1' := SliceV.mono hs1 hF2
      refine aB (i := 7) (by kernel_rfl) (aC (Hc := []) (Hr := blk b 28 x.cells :: X) rfl (long_spec _ _ [x.stamp] (putB (uN x.client) 1) F2 (h2) hs1' (by simp) (by simp) (by rw [pl1]; decide)) Try.call43 rfl rfl rfl (fun _ s => s) (fun _ _ _ hF hq w s => by subst hq; exact s.drop.mono hF) ?_)
      rintro u3 F3 _ hF3 rfl
      refine aB (i := 10) (by kernel_rfl) (aE rfl (eb_append (bs := putB (uN x.client) 1 ++ longB [x.stamp]) (cs := x.dig) (K := fun v' => bytes v' (putB (uN x.client) 1 ++ longB [x.stamp] ++ x.dig) :: blk b 28 x.cells :: X) rfl rfl (rdb_dig (.there .here) hd x.dig_at) (by simp [longB, pl8, pl1, hd]) (fun v' => .here)) rfl rfl (fun _ _ _ _ hq w s => by obtain ⟨rfl, _, rfl⟩ := hq; exact s.drop.mono hF3) ?_)
      rintro u4 _ _ _ ⟨rfl, _, rfl⟩
      refine aT 11 rfl (ev_pv rfl) rfl rfl ?_ ?_ ?_ ?_; kernel_rfl; kernel_rfl; kernel_rfl
      refine aD (by kernel_rfl) ?_
      exact J_joined (u4, F3) (hG1.trans (hF2.trans hF3)) ⟨⟨rfl, rfl, trivial⟩, fun w s => s⟩
  rintro ⟨u4, F4⟩ hF4
  dsimp only at hF4
  repeat (first|refine zJ rfl rfl ?_|refine jr rfl ?_|refine jn ?_|refine zM rfl rfl ?_|(refine zC rfl rfl ?_ rfl ?_;omega)|(refine zD rfl rfl ?_ rfl ?_;omega)|(refine zP rfl ?_ rfl ?_;omega)|refine zG rfl rfl rfl rfl ?_|(refine jdq rfl rfl ?_ ?_ ?_;kernel_rfl;kernel_rfl)|refine zB rfl rfl rfl (by repeat constructor) rfl ?_|refine zH .here rfl rfl rfl rfl ?_|refine zH (.there .here) rfl rfl rfl rfl ?_|refine zH (.there (.there .here)) rfl rfl rfl rfl ?_)
  refine oS (ev_load rfl rfl (Rdb.ofB (n := 0) (.there .here) (Vo.mask_at hd))) rfl ?_
  refine oS (ev_conv rfl rfl rfl (wrap_in (by dsimp only [InK]; omega))) rfl ?_
  refine oPersist fun h1 hA1 hd1 => ?_
  have hbv := bytes_byt hA1 hd1
  dsimp only at hbv
  have hle := PH.le_l F4 h1
  generalize hG1 : PH.un (u4, F4).2 h1 = G1 at *
  replace hle : F4.le G1 := by rw [← hG1]; exact PH.le_l _ _
  clear hG1
  refine oC (Hc := []) (Hr := blk b 28 x.cells :: X) (put_p _ _ _ _ G1 hbv (show x.mask < 2 ^ 64 by omega) (by simp [longB, pl8, pl1, hd])) Try.call44 rfl rfl (fun _ s => s) ?_; rintro u5 F5 _ hF5 ⟨rfl, h5⟩
  rw [show putB (uN x.client) 1 ++ longB [x.stamp] ++ x.dig ++ putB x.mask 1 = x.bytes from by simp [longB, Vo.bytes]] at h5
  repeat (first|refine zJ rfl rfl ?_|refine jr rfl ?_|refine jn ?_|refine zM rfl rfl ?_|(refine zC rfl rfl ?_ rfl ?_;omega)|(refine zD rfl rfl ?_ rfl ?_;omega)|(refine zP rfl ?_ rfl ?_;omega)|refine zG rfl rfl rfl rfl ?_|(refine jdq rfl rfl ?_ ?_ ?_;kernel_rfl;kernel_rfl)|refine zB rfl rfl rfl (by repeat constructor) rfl ?_|refine zH .here rfl rfl rfl rfl ?_|refine zH (.there .here) rfl rfl rfl rfl ?_|refine zH (.there (.there .here)) rfl rfl rfl rfl ?_)
  exact J_retv rfl (.tmp rfl .nil) [] (fun w s => s.drop) (hF4.trans (hle.trans hF5)) ⟨rfl, h5⟩
set_option maxHeartbeats 16000000 in
theorem reply_spec (x : Rp) (F : PH) : Spec Try.prog 12 [.agg x.cells.toArray] F [] fun u F' H' => H' = [] ∧ Byt F' u x.bytes := by
  refine Spec.of1 Try.func12 rfl rfl fun X w0 => ?_
  refine jc rfl rfl ?_
  refine jr rfl ?_
  refine oE (ev_box rfl .agg) rfl ?_; rintro _ _ _ _ ⟨rfl, b, rfl, rfl⟩
  repeat (first|refine zJ rfl rfl ?_|refine jr rfl ?_|refine jn ?_|refine zM rfl rfl ?_|(refine zC rfl rfl ?_ rfl ?_;omega)|(refine zD rfl rfl ?_ rfl ?_;omega)|(refine zP rfl ?_ rfl ?_;omega)|refine zG rfl rfl rfl rfl ?_|(refine jdq rfl rfl ?_ ?_ ?_;kernel_rfl;kernel_rfl)|refine zB rfl rfl rfl (by repeat constructor) rfl ?_|refine zH .here rfl rfl rfl rfl ?_|refine zH (.there .here) rfl rfl rfl rfl ?_|refine zH (.there (.there .here)) rfl rfl rfl rfl ?_)
  refine J_join [_] (fun i : Value × PH => F.le i.2) (fun i => [(1, .pointer (some ⟨b, 0, none⟩)), (3, i.1)]) (fun i => i.2) (fun i => bytes i.1 (longB [x.view] ++ putB (uN x.client) 1 ++ longB [x.stamp]) :: blk b 31 x.cells :: X) ?_ ?_
  · refine ja F (blk b 31 x.cells :: X) ?_ ?_ ?_; kernel_rfl
    · exact fun w s => s
    refine aT 0 rfl (ev_fieldAddr rfl rfl) rfl rfl ?_ ?_ ?_ ?_; kernel_rfl; kernel_rfl; kernel_rfl
    refine aT 1 rfl (ev_load rfl rfl (Rdb.ofB (n := 0) .here rfl)) rfl rfl ?_ ?_ ?_ ?_; kernel_rfl; kernel_rfl; kernel_rfl
    refine aT 4 rfl (ev_fieldAddr rfl rfl) rfl rfl ?_ ?_ ?_ ?_; kernel_rfl; kernel_rfl; kernel_rfl
    refine aT 5 rfl (ev_load rfl rfl (Rdb.ofB (n := 0) .here rfl)) rfl rfl ?_ ?_ ?_ ?_; kernel_rfl; kernel_rfl; kernel_rfl
    refine aT 6 rfl (ev_conv rfl rfl rfl (uN_wrap _)) rfl rfl ?_ ?_ ?_ ?_; kernel_rfl; kernel_rfl; kernel_rfl
    refine aT 8 rfl (ev_fieldAddr rfl rfl) rfl rfl ?_ ?_ ?_ ?_; kernel_rfl; kernel_rfl; kernel_rfl
    refine aT 9 rfl (ev_load rfl rfl (Rdb.ofB (n := 0) .here rfl)) rfl rfl ?_ ?_ ?_ ?_; kernel_rfl; kernel_rfl; kernel_rfl
    refine aB2 (i := 2) (i' := 10) (by kernel_rfl) ?_ ?_
    · refine (aE rfl (ev_buildSlice (E := 2) (zs := [.int .i64 0]) (t := [.int .i64 x.view]) rfl rfl rfl rfl rfl rfl (by repeat constructor)) rfl rfl (fun _ _ _ _ hq w s => by obtain ⟨rfl, _, rfl, rfl⟩ := hq; exact s.drop) ?_)
      rintro _ _ _ _ ⟨rfl, bs1, rfl, rfl⟩
      refine aPersist fun hp1 hpA1 hpd1 => ?_
      have hs1 := SliceV.of_blk (xs := [x.view]) hpA1 hpd1 rfl
      have hG1 := PH.le_l F hp1
      refine aFH hG1 ?_
      generalize PH.un F hp1 = G1 at *
      refine aB2 (i := 3) (i' := 10) (by kernel_rfl) ?_ ?_
      · refine (aC (Hc := []) (Hr := blk b 31 x.cells :: X) rfl (long_spec _ _ [x.view] [] G1 (Byt.nil G1) (hs1) (by simp) (by simp) (by simp)) Try.call43 rfl rfl rfl (fun _ s => s) (fun _ _ _ hF hq w s => by subst hq; exact s.drop.mono hF) ?_)
        rintro u2 F2 _ hF2 rfl
        refine aPersist fun hp2 hpA2 hpd2 => ?_
        have hb2 := bytes_byt hpA2 hpd2
        have hG2 := PH.le_l F2 hp2
        refine aFH (hF2.trans hG2) ?_
        generalize PH.un F2 hp2 = G2 at *
        refine aB2 (i := 7) (i' := 10) (by kernel_rfl) ?_ ?_
        · refine aC (Hc := []) (Hr := blk b 31 x.cells :: X) rfl (put_p _ _ _ _ G2 (hb2) (uN_lt _) (by simp [longB, pl8])) Try.call44 rfl rfl rfl (fun _ s => s) (fun _ _ _ hF hq w s => by obtain ⟨e, _⟩ := hq; subst e; exact s.mono hF) ?_; rintro u3 F3 _ hF3 ⟨rfl, h3⟩; refine aFH hF3 ?_
          refine aB (i := 10) (by kernel_rfl) (aE rfl (ev_buildSlice (E := 2) (zs := [.int .i64 0]) (t := [.int .i64 x.stamp]) rfl rfl rfl rfl rfl rfl (by repeat constructor)) rfl rfl (fun _ _ _ _ hq w s => by obtain ⟨rfl, _, rfl, rfl⟩ := hq; exact s.drop) ?_)
          rintro _ _ _ _ ⟨rfl, bs9, rfl, rfl⟩
          refine aPersist fun hp9 hpA9 hpd9 => ?_
          have hs9 := SliceV.of_blk (xs := [x.stamp]) hpA9 hpd9 rfl
          have hG9 := PH.le_l F3 hp9
          refine aFH hG9 ?_
          generalize PH.un F3 hp9 = G9 at *
          refine aB (i := 11) (by kernel_rfl) (aC (Hc := []) (Hr := blk b 31 x.cells :: X) rfl (long_spec _ _ [x.stamp] _ G9 (SliceV.mono h3 hG9) (hs9) (by simp) (by simp) (by simp [longB, pl8, pl1])) Try.call43 rfl rfl rfl (fun _ s => s) (fun _ _ _ hF hq w s => by subst hq; exact s.drop.mono hF) ?_)
          rintro u5 F5 _ hF5 rfl
          refine aT 12 rfl (ev_pv rfl) rfl rfl ?_ ?_ ?_ ?_; kernel_rfl; kernel_rfl; kernel_rfl
          refine aD (by kernel_rfl) ?_
          exact J_joined (u5, F5) ((hG1.trans (hF2.trans (hG2.trans (hF3.trans (hG9.trans hF5)))))) ⟨⟨rfl, rfl, trivial⟩, fun w s => s⟩
        · refine (aE rfl (ev_buildSlice (E := 2) (zs := [.int .i64 0]) (t := [.int .i64 x.stamp]) rfl rfl rfl rfl rfl rfl (by repeat constructor)) rfl rfl (fun _ _ _ _ hq w s => by obtain ⟨rfl, _, rfl, rfl⟩ := hq; exact s.drop) ?_)
          rintro _ _ _ _ ⟨rfl, bs9, rfl, rfl⟩
          refine aPersist fun hp9 hpA9 hpd9 => ?_
          have hs9 := SliceV.of_blk (xs := [x.stamp]) hpA9 hpd9 rfl
          have hG9 := PH.le_l G2 hp9
          refine aFH hG9 ?_
          generalize PH.un G2 hp9 = G9 at *
          refine aB (i := 7) (by kernel_rfl) ?_
          refine aC (Hc := []) (Hr := blk b 31 x.cells :: X) rfl (put_p _ _ _ _ G9 (SliceV.mono hb2 hG9) (uN_lt _) (by simp [longB, pl8])) Try.call44 rfl rfl rfl (fun _ s => s) (fun _ _ _ hF hq w s => by obtain ⟨e, _⟩ := hq; subst e; exact s.mono hF) ?_; rintro u3 F3 _ hF3 ⟨rfl, h3⟩; refine aFH hF3 ?_
          refine aB (i := 11) (by kernel_rfl) (aC (Hc := []) (Hr := blk b 31 x.cells :: X) rfl (long_spec _ _ [x.stamp] _ F3 (h3) (SliceV.mono hs9 hF3) (by simp) (by simp) (by simp [longB, pl8, pl1])) Try.call43 rfl rfl rfl (fun _ s => s) (fun _ _ _ hF hq w s => by subst hq; exact s.drop.mono hF) ?_)
          rintro u5 F5 _ hF5 rfl
          refine aT 12 rfl (ev_pv rfl) rfl rfl ?_ ?_ ?_ ?_; kernel_rfl; kernel_rfl; kernel_rfl
          refine aD (by kernel_rfl) ?_
          exact J_joined (u5, F5) ((hG1.trans (hF2.trans (hG2.trans (hG9.trans (hF3.trans hF5)))))) ⟨⟨rfl, rfl, trivial⟩, fun w s => s⟩
      · refine (aE rfl (ev_buildSlice (E := 2) (zs := [.int .i64 0]) (t := [.int .i64 x.stamp]) rfl rfl rfl rfl rfl rfl (by repeat constructor)) rfl rfl (fun _ _ _ _ hq w s => by obtain ⟨rfl, _, rfl, rfl⟩ := hq; exact s.drop) ?_)
        rintro _ _ _ _ ⟨rfl, bs9, rfl, rfl⟩
        refine aPersist fun hp9 hpA9 hpd9 => ?_
        have hs9 := SliceV.of_blk (xs := [x.stamp]) hpA9 hpd9 rfl
        have hG9 := PH.le_l G1 hp9
        refine aFH hG9 ?_
        generalize PH.un G1 hp9 = G9 at *
        refine aB (i := 3) (by kernel_rfl) (aC (Hc := []) (Hr := blk b 31 x.cells :: X) rfl (long_spec _ _ [x.view] [] G9 (Byt.nil G9) (SliceV.mono hs1 hG9) (by simp) (by simp) (by simp)) Try.call43 rfl rfl rfl (fun _ s => s) (fun _ _ _ hF hq w s => by subst hq; exact s.drop.mono hF) ?_)
        rintro u2 F2 _ hF2 rfl
        refine aPersist fun hp2 hpA2 hpd2 => ?_
        have hb2 := bytes_byt hpA2 hpd2
        have hG2 := PH.le_l F2 hp2
        refine aFH (hF2.trans hG2) ?_
        generalize PH.un F2 hp2 = G2 at *
        refine aB (i := 7) (by kernel_rfl) ?_
        refine aC (Hc := []) (Hr := blk b 31 x.cells :: X) rfl (put_p _ _ _ _ G2 (hb2) (uN_lt _) (by simp [longB, pl8])) Try.call44 rfl rfl rfl (fun _ s => s) (fun _ _ _ hF hq w s => by obtain ⟨e, _⟩ := hq; subst e; exact s.mono hF) ?_; rintro u3 F3 _ hF3 ⟨rfl, h3⟩; refine aFH hF3 ?_
        refine aB (i := 11) (by kernel_rfl) (aC (Hc := []) (Hr := blk b 31 x.cells :: X) rfl (long_spec _ _ [x.stamp] _ F3 (h3) (SliceV.mono hs9 (hF2.trans (hG2.trans hF3))) (by simp) (by simp) (by simp [longB, pl8, pl1])) Try.call43 rfl rfl rfl (fun _ s => s) (fun _ _ _ hF hq w s => by subst hq; exact s.drop.mono hF) ?_)
        rintro u5 F5 _ hF5 rfl
        refine aT 12 rfl (ev_pv rfl) rfl rfl ?_ ?_ ?_ ?_; kernel_rfl; kernel_rfl; kernel_rfl
        refine aD (by kernel_rfl) ?_
        exact J_joined (u5, F5) ((hG1.trans (hG9.trans (hF2.trans (hG2.trans (hF3.trans hF5)))))) ⟨⟨rfl, rfl, trivial⟩, fun w s => s⟩
    · refine (aE rfl (ev_buildSlice (E := 2) (zs := [.int .i64 0]) (t := [.int .i64 x.stamp]) rfl rfl rfl rfl rfl rfl (by repeat constructor)) rfl rfl (fun _ _ _ _ hq w s => by obtain ⟨rfl, _, rfl, rfl⟩ := hq; exact s.drop) ?_)
      rintro _ _ _ _ ⟨rfl, bs9, rfl, rfl⟩
      refine aPersist fun hp9 hpA9 hpd9 => ?_
      have hs9 := SliceV.of_blk (xs := [x.stamp]) hpA9 hpd9 rfl
      have hG9 := PH.le_l F hp9
      refine aFH hG9 ?_
      generalize PH.un F hp9 = G9 at *
      refine aB (i := 2) (by kernel_rfl) (aE rfl (ev_buildSlice (E := 2) (zs := [.int .i64 0]) (t := [.int .i64 x.view]) rfl rfl rfl rfl rfl rfl (by repeat constructor)) rfl rfl (fun _ _ _ _ hq w s => by obtain ⟨rfl, _, rfl, rfl⟩ := hq; exact s.drop) ?_)
      rintro _ _ _ _ ⟨rfl, bs1, rfl, rfl⟩
      refine aPersist fun hp1 hpA1 hpd1 => ?_
      have hs1 := SliceV.of_blk (xs := [x.view]) hpA1 hpd1 rfl
      have hG1 := PH.le_l G9 hp1
      refine aFH hG1 ?_
      generalize PH.un G9 hp1 = G1 at *
      refine aB (i := 3) (by kernel_rfl) (aC (Hc := []) (Hr := blk b 31 x.cells :: X) rfl (long_spec _ _ [x.view] [] G1 (Byt.nil G1) (hs1) (by simp) (by simp) (by simp)) Try.call43 rfl rfl rfl (fun _ s => s) (fun _ _ _ hF hq w s => by subst hq; exact s.drop.mono hF) ?_)
      rintro u2 F2 _ hF2 rfl
      refine aPersist fun hp2 hpA2 hpd2 => ?_
      have hb2 := bytes_byt hpA2 hpd2
      have hG2 := PH.le_l F2 hp2
      refine aFH (hF2.trans hG2) ?_
      generalize PH.un F2 hp2 = G2 at *
      refine aB (i := 7) (by kernel_rfl) ?_
      refine aC (Hc := []) (Hr := blk b 31 x.cells :: X) rfl (put_p _ _ _ _ G2 (hb2) (uN_lt _) (by simp [longB, pl8])) Try.call44 rfl rfl rfl (fun _ s => s) (fun _ _ _ hF hq w s => by obtain ⟨e, _⟩ := hq; subst e; exact s.mono hF) ?_; rintro u3 F3 _ hF3 ⟨rfl, h3⟩; refine aFH hF3 ?_
      refine aB (i := 11) (by kernel_rfl) (aC (Hc := []) (Hr := blk b 31 x.cells :: X) rfl (long_spec _ _ [x.stamp] _ F3 (h3) (SliceV.mono hs9 (hG1.trans (hF2.trans (hG2.trans hF3)))) (by simp) (by simp) (by simp [longB, pl8, pl1])) Try.call43 rfl rfl rfl (fun _ s => s) (fun _ _ _ hF hq w s => by subst hq; exact s.drop.mono hF) ?_)
      rintro u5 F5 _ hF5 rfl
      refine aT 12 rfl (ev_pv rfl) rfl rfl ?_ ?_ ?_ ?_; kernel_rfl; kernel_rfl; kernel_rfl
      refine aD (by kernel_rfl) ?_
      exact J_joined (u5, F5) ((hG9.trans (hG1.trans (hF2.trans (hG2.trans (hF3.trans hF5)))))) ⟨⟨rfl, rfl, trivial⟩, fun w s => s⟩
  rintro ⟨u4, F4⟩ hF4
  dsimp only at hF4
  repeat (first|refine zJ rfl rfl ?_|refine jr rfl ?_|refine jn ?_|refine zM rfl rfl ?_|(refine zC rfl rfl ?_ rfl ?_;omega)|(refine zD rfl rfl ?_ rfl ?_;omega)|(refine zP rfl ?_ rfl ?_;omega)|refine zG rfl rfl rfl rfl ?_|(refine jdq rfl rfl ?_ ?_ ?_;kernel_rfl;kernel_rfl)|refine zB rfl rfl rfl (by repeat constructor) rfl ?_|refine zH .here rfl rfl rfl rfl ?_|refine zH (.there .here) rfl rfl rfl rfl ?_|refine zH (.there (.there .here)) rfl rfl rfl rfl ?_)
  refine oS (ev_conv rfl rfl rfl (uN_wrap _)) rfl ?_
  refine oPersist fun h1 hA1 hd1 => ?_
  have hbv := bytes_byt hA1 hd1
  dsimp only at hbv
  generalize hG1 : PH.un (u4, F4).2 h1 = G1 at *
  have hle : F4.le G1 := by rw [← hG1]; exact PH.le_l _ _
  clear hG1
  refine oC (Hc := []) (Hr := blk b 31 x.cells :: X) (put_p _ _ _ _ G1 hbv (uN_lt _) (by simp [longB, pl8, pl1])) Try.call44 rfl rfl (fun _ s => s) ?_; rintro u5 F5 _ hF5 ⟨rfl, h5⟩
  rw [show longB [x.view] ++ putB (uN x.client) 1 ++ longB [x.stamp] ++ putB (uN x.result) 1 = x.bytes from by simp [longB, Rp.bytes]] at h5
  repeat (first|refine zJ rfl rfl ?_|refine jr rfl ?_|refine jn ?_|refine zM rfl rfl ?_|(refine zC rfl rfl ?_ rfl ?_;omega)|(refine zD rfl rfl ?_ rfl ?_;omega)|(refine zP rfl ?_ rfl ?_;omega)|refine zG rfl rfl rfl rfl ?_|(refine jdq rfl rfl ?_ ?_ ?_;kernel_rfl;kernel_rfl)|refine zB rfl rfl rfl (by repeat constructor) rfl ?_|refine zH .here rfl rfl rfl rfl ?_|refine zH (.there .here) rfl rfl rfl rfl ?_|refine zH (.there (.there .here)) rfl rfl rfl rfl ?_)
  exact J_retv rfl (.tmp rfl .nil) [] (fun w s => s.drop) (hF4.trans (hle.trans hF5)) ⟨rfl, h5⟩
set_option maxHeartbeats 16000000 in
theorem Vote_spec (x : Vt) (F : PH) (hd : x.dig.length = 32) : Spec Try.prog 13 [.agg x.cells.toArray] F [] fun u F' H' => H' = [] ∧ Byt F' u x.bytes := by
  refine Spec.of1 Try.func13 rfl rfl fun X w0 => ?_
  refine jc rfl rfl ?_
  refine jr rfl ?_
  refine oE (ev_box rfl .agg) rfl ?_; rintro _ _ _ _ ⟨rfl, b, rfl, rfl⟩
  repeat (first|refine zJ rfl rfl ?_|refine jr rfl ?_|refine jn ?_|refine zM rfl rfl ?_|(refine zC rfl rfl ?_ rfl ?_;omega)|(refine zD rfl rfl ?_ rfl ?_;omega)|(refine zP rfl ?_ rfl ?_;omega)|refine zG rfl rfl rfl rfl ?_|(refine jdq rfl rfl ?_ ?_ ?_;kernel_rfl;kernel_rfl)|refine zB rfl rfl rfl (by repeat constructor) rfl ?_|refine zH .here rfl rfl rfl rfl ?_|refine zH (.there .here) rfl rfl rfl rfl ?_|refine zH (.there (.there .here)) rfl rfl rfl rfl ?_)
  refine ja F (blk b 25 x.cells :: X) ?_ ?_ ?_; kernel_rfl
  · exact fun w s => s
  refine aT 0 rfl (ev_fieldAddr rfl rfl) rfl rfl ?_ ?_ ?_ ?_; kernel_rfl; kernel_rfl; kernel_rfl
  refine aT 1 rfl (ev_load rfl rfl (Rdb.ofB (n := 0) .here rfl)) rfl rfl ?_ ?_ ?_ ?_; kernel_rfl; kernel_rfl; kernel_rfl
  refine aT 2 rfl (ev_conv rfl rfl rfl (uN_wrap _)) rfl rfl ?_ ?_ ?_ ?_; kernel_rfl; kernel_rfl; kernel_rfl
  refine aT 4 rfl (ev_fieldAddr rfl rfl) rfl rfl ?_ ?_ ?_ ?_; kernel_rfl; kernel_rfl; kernel_rfl
  refine aT 5 rfl (ev_load rfl rfl (Rdb.ofB (n := 0) .here rfl)) rfl rfl ?_ ?_ ?_ ?_; kernel_rfl; kernel_rfl; kernel_rfl
  refine aT 6 rfl (ev_conv rfl rfl rfl (uN_wrap _)) rfl rfl ?_ ?_ ?_ ?_; kernel_rfl; kernel_rfl; kernel_rfl
  refine aT 8 rfl (ev_fieldAddr rfl rfl) rfl rfl ?_ ?_ ?_ ?_; kernel_rfl; kernel_rfl; kernel_rfl
  refine aT 9 rfl (ev_load_agg (cs := u8s x.dig) rfl rfl (Rdb.ofB (n := 0) .here x.dig_at) (by rw [u8s_len]; exact hd)) rfl rfl ?_ ?_ ?_ ?_; kernel_rfl; kernel_rfl; kernel_rfl
  refine aB (i := 3) (by kernel_rfl) ?_
  refine aC (Hc := []) (Hr := blk b 25 x.cells :: X) rfl (Put_p _ _ _ [] F (Byt.nil F) (uN_lt _) (by simp)) Try.call46 rfl rfl rfl (fun _ s => s) (fun _ _ _ hF hq w s => by obtain ⟨e, _⟩ := hq; subst e; exact s.mono hF) ?_; rintro u1 F1 _ hF1 ⟨rfl, h1⟩; refine aFH hF1 ?_
  refine aB (i := 7) (by kernel_rfl) ?_
  refine aC (Hc := []) (Hr := blk b 25 x.cells :: X) rfl (Put_p _ _ _ _ F1 h1 (uN_lt _) (by simp [pl8])) Try.call46 rfl rfl rfl (fun _ s => s) (fun _ _ _ hF hq w s => by obtain ⟨e, _⟩ := hq; subst e; exact s.mono hF) ?_; rintro u2 F2 _ hF2 ⟨rfl, h2⟩; refine aFH hF2 ?_
  refine aB (i := 10) (by kernel_rfl) ?_
  refine aC (Hc := []) (Hr := blk b 25 x.cells :: X) rfl (Digest_spec _ _ x.dig F2 h2 hd (by simp [pl8])) Try.call45 rfl rfl rfl (fun _ s => s) (fun _ _ _ hF hq w s => by obtain ⟨e, _⟩ := hq; subst e; exact s.mono hF) ?_; rintro u3 F3 _ hF3 ⟨rfl, h3⟩; refine aFH hF3 ?_
  refine aT 11 rfl (ev_pv rfl) rfl rfl ?_ ?_ ?_ ?_; kernel_rfl; kernel_rfl; kernel_rfl
  refine aD (by kernel_rfl) ?_
  repeat (first|refine zJ rfl rfl ?_|refine jr rfl ?_|refine jn ?_|refine zM rfl rfl ?_|(refine zC rfl rfl ?_ rfl ?_;omega)|(refine zD rfl rfl ?_ rfl ?_;omega)|(refine zP rfl ?_ rfl ?_;omega)|refine zG rfl rfl rfl rfl ?_|(refine jdq rfl rfl ?_ ?_ ?_;kernel_rfl;kernel_rfl)|refine zB rfl rfl rfl (by repeat constructor) rfl ?_|refine zH .here rfl rfl rfl rfl ?_|refine zH (.there .here) rfl rfl rfl rfl ?_|refine zH (.there (.there .here)) rfl rfl rfl rfl ?_)
  exact J_retv rfl (.tmp rfl .nil) [] (fun w s => s.drop) (hF1.trans (hF2.trans hF3)) ⟨rfl, h3⟩
set_option maxHeartbeats 16000000 in
theorem Vouching_spec (x : Vo) (F : PH) (hd : x.dig.length = 32) (hm : x.mask < 4294967296) : Spec Try.prog 14 [.agg x.cells.toArray] F [] fun u F' H' => H' = [] ∧ Byt F' u x.bytes := by
  refine Spec.of1 Try.func14 rfl rfl fun X w0 => ?_
  refine jc rfl rfl ?_
  refine jr rfl ?_
  refine oE (ev_box rfl .agg) rfl ?_; rintro _ _ _ _ ⟨rfl, b, rfl, rfl⟩
  repeat (first|refine zJ rfl rfl ?_|refine jr rfl ?_|refine jn ?_|refine zM rfl rfl ?_|(refine zC rfl rfl ?_ rfl ?_;omega)|(refine zD rfl rfl ?_ rfl ?_;omega)|(refine zP rfl ?_ rfl ?_;omega)|refine zG rfl rfl rfl rfl ?_|(refine jdq rfl rfl ?_ ?_ ?_;kernel_rfl;kernel_rfl)|refine zB rfl rfl rfl (by repeat constructor) rfl ?_|refine zH .here rfl rfl rfl rfl ?_|refine zH (.there .here) rfl rfl rfl rfl ?_|refine zH (.there (.there .here)) rfl rfl rfl rfl ?_)
  refine ja F (blk b 28 x.cells :: X) ?_ ?_ ?_; kernel_rfl
  · exact fun w s => s
  refine aT 0 rfl (ev_fieldAddr rfl rfl) rfl rfl ?_ ?_ ?_ ?_; kernel_rfl; kernel_rfl; kernel_rfl
  refine aT 1 rfl (ev_load rfl rfl (Rdb.ofB (n := 0) .here rfl)) rfl rfl ?_ ?_ ?_ ?_; kernel_rfl; kernel_rfl; kernel_rfl
  refine aT 2 rfl (ev_conv rfl rfl rfl (uN_wrap _)) rfl rfl ?_ ?_ ?_ ?_; kernel_rfl; kernel_rfl; kernel_rfl
  refine aT 4 rfl (ev_fieldAddr rfl rfl) rfl rfl ?_ ?_ ?_ ?_; kernel_rfl; kernel_rfl; kernel_rfl
  refine aT 5 rfl (ev_load rfl rfl (Rdb.ofB (n := 0) .here rfl)) rfl rfl ?_ ?_ ?_ ?_; kernel_rfl; kernel_rfl; kernel_rfl
  refine aT 6 rfl (ev_conv rfl rfl rfl (uN_wrap _)) rfl rfl ?_ ?_ ?_ ?_; kernel_rfl; kernel_rfl; kernel_rfl
  refine aB (i := 3) (by kernel_rfl) ?_
  refine aC (Hc := []) (Hr := blk b 28 x.cells :: X) rfl (Put_p _ _ _ [] F (Byt.nil F) (uN_lt _) (by simp)) Try.call46 rfl rfl rfl (fun _ s => s) (fun _ _ _ hF hq w s => by obtain ⟨e, _⟩ := hq; subst e; exact s.mono hF) ?_; rintro u1 F1 _ hF1 ⟨rfl, h1⟩; refine aFH hF1 ?_
  refine aB (i := 7) (by kernel_rfl) ?_
  refine aC (Hc := []) (Hr := blk b 28 x.cells :: X) rfl (Put_p _ _ _ _ F1 h1 (uN_lt _) (by simp [pl1])) Try.call46 rfl rfl rfl (fun _ s => s) (fun _ _ _ hF hq w s => by obtain ⟨e, _⟩ := hq; subst e; exact s.mono hF) ?_; rintro u2 F2 _ hF2 ⟨rfl, h2⟩; refine aFH hF2 ?_
  refine aT 8 rfl (ev_pv rfl) rfl rfl ?_ ?_ ?_ ?_; kernel_rfl; kernel_rfl; kernel_rfl
  refine aD (by kernel_rfl) ?_
  repeat (first|refine zJ rfl rfl ?_|refine jr rfl ?_|refine jn ?_|refine zM rfl rfl ?_|(refine zC rfl rfl ?_ rfl ?_;omega)|(refine zD rfl rfl ?_ rfl ?_;omega)|(refine zP rfl ?_ rfl ?_;omega)|refine zG rfl rfl rfl rfl ?_|(refine jdq rfl rfl ?_ ?_ ?_;kernel_rfl;kernel_rfl)|refine zB rfl rfl rfl (by repeat constructor) rfl ?_|refine zH .here rfl rfl rfl rfl ?_|refine zH (.there .here) rfl rfl rfl rfl ?_|refine zH (.there (.there .here)) rfl rfl rfl rfl ?_)
  refine ja F2 (blk b 28 x.cells :: X) ?_ ?_ ?_; kernel_rfl
  · exact fun w s => s
  refine aT 0 rfl (ev_pv rfl) rfl rfl ?_ ?_ ?_ ?_; kernel_rfl; kernel_rfl; kernel_rfl
  refine aT 1 rfl (ev_fieldAddr rfl rfl) rfl rfl ?_ ?_ ?_ ?_; kernel_rfl; kernel_rfl; kernel_rfl
  refine aT 2 rfl (ev_load_agg (cs := u8s x.dig) rfl rfl (Rdb.ofB (n := 0) .here x.dig_at) (by rw [u8s_len]; exact hd)) rfl rfl ?_ ?_ ?_ ?_; kernel_rfl; kernel_rfl; kernel_rfl
  refine aT 4 rfl (ev_fieldAddr rfl rfl) rfl rfl ?_ ?_ ?_ ?_; kernel_rfl; kernel_rfl; kernel_rfl
  refine aT 5 rfl (ev_load rfl rfl (Rdb.ofB (n := 0) .here (Vo.mask_at hd))) rfl rfl ?_ ?_ ?_ ?_; kernel_rfl; kernel_rfl; kernel_rfl
  refine aT 6 rfl (ev_conv rfl rfl rfl (wrap_in (by dsimp only [InK]; omega))) rfl rfl ?_ ?_ ?_ ?_; kernel_rfl; kernel_rfl; kernel_rfl
  refine aB (i := 3) (by kernel_rfl) ?_
  refine aC (Hc := []) (Hr := blk b 28 x.cells :: X) rfl (Digest_spec _ _ x.dig F2 h2 hd (by simp [pl8, pl1])) Try.call45 rfl rfl rfl (fun _ s => s) (fun _ _ _ hF hq w s => by obtain ⟨e, _⟩ := hq; subst e; exact s.mono hF) ?_; rintro u3 F3 _ hF3 ⟨rfl, h3⟩; refine aFH hF3 ?_
  refine aB (i := 7) (by kernel_rfl) ?_
  refine aC (Hc := []) (Hr := blk b 28 x.cells :: X) rfl (Put_p _ _ _ _ F3 h3 (show x.mask < 2 ^ 64 by omega) (by simp [pl8, pl1, hd])) Try.call46 rfl rfl rfl (fun _ s => s) (fun _ _ _ hF hq w s => by obtain ⟨e, _⟩ := hq; subst e; exact s.mono hF) ?_; rintro u4 F4 _ hF4 ⟨rfl, h4⟩; refine aFH hF4 ?_
  refine aT 8 rfl (ev_pv rfl) rfl rfl ?_ ?_ ?_ ?_; kernel_rfl; kernel_rfl; kernel_rfl
  refine aD (by kernel_rfl) ?_
  repeat (first|refine zJ rfl rfl ?_|refine jr rfl ?_|refine jn ?_|refine zM rfl rfl ?_|(refine zC rfl rfl ?_ rfl ?_;omega)|(refine zD rfl rfl ?_ rfl ?_;omega)|(refine zP rfl ?_ rfl ?_;omega)|refine zG rfl rfl rfl rfl ?_|(refine jdq rfl rfl ?_ ?_ ?_;kernel_rfl;kernel_rfl)|refine zB rfl rfl rfl (by repeat constructor) rfl ?_|refine zH .here rfl rfl rfl rfl ?_|refine zH (.there .here) rfl rfl rfl rfl ?_|refine zH (.there (.there .here)) rfl rfl rfl rfl ?_)
  exact J_retv rfl (.tmp rfl .nil) [] (fun w s => s.drop) (hF1.trans (hF2.trans (hF3.trans hF4))) ⟨rfl, h4⟩
set_option maxHeartbeats 16000000 in
theorem Reply_spec (x : Rp) (F : PH) : Spec Try.prog 15 [.agg x.cells.toArray] F [] fun u F' H' => H' = [] ∧ Byt F' u x.bytes := by
  refine Spec.of1 Try.func15 rfl rfl fun X w0 => ?_
  refine jc rfl rfl ?_
  refine jr rfl ?_
  refine oE (ev_box rfl .agg) rfl ?_; rintro _ _ _ _ ⟨rfl, b, rfl, rfl⟩
  repeat (first|refine zJ rfl rfl ?_|refine jr rfl ?_|refine jn ?_|refine zM rfl rfl ?_|(refine zC rfl rfl ?_ rfl ?_;omega)|(refine zD rfl rfl ?_ rfl ?_;omega)|(refine zP rfl ?_ rfl ?_;omega)|refine zG rfl rfl rfl rfl ?_|(refine jdq rfl rfl ?_ ?_ ?_;kernel_rfl;kernel_rfl)|refine zB rfl rfl rfl (by repeat constructor) rfl ?_|refine zH .here rfl rfl rfl rfl ?_|refine zH (.there .here) rfl rfl rfl rfl ?_|refine zH (.there (.there .here)) rfl rfl rfl rfl ?_)
  refine ja F (blk b 31 x.cells :: X) ?_ ?_ ?_; kernel_rfl
  · exact fun w s => s
  refine aT 0 rfl (ev_fieldAddr rfl rfl) rfl rfl ?_ ?_ ?_ ?_; kernel_rfl; kernel_rfl; kernel_rfl
  refine aT 1 rfl (ev_load rfl rfl (Rdb.ofB (n := 0) .here rfl)) rfl rfl ?_ ?_ ?_ ?_; kernel_rfl; kernel_rfl; kernel_rfl
  refine aT 2 rfl (ev_conv rfl rfl rfl (uN_wrap _)) rfl rfl ?_ ?_ ?_ ?_; kernel_rfl; kernel_rfl; kernel_rfl
  refine aT 4 rfl (ev_fieldAddr rfl rfl) rfl rfl ?_ ?_ ?_ ?_; kernel_rfl; kernel_rfl; kernel_rfl
  refine aT 5 rfl (ev_load rfl rfl (Rdb.ofB (n := 0) .here rfl)) rfl rfl ?_ ?_ ?_ ?_; kernel_rfl; kernel_rfl; kernel_rfl
  refine aT 6 rfl (ev_conv rfl rfl rfl (uN_wrap _)) rfl rfl ?_ ?_ ?_ ?_; kernel_rfl; kernel_rfl; kernel_rfl
  refine aB (i := 3) (by kernel_rfl) ?_
  refine aC (Hc := []) (Hr := blk b 31 x.cells :: X) rfl (Put_p _ _ _ [] F (Byt.nil F) (uN_lt _) (by simp)) Try.call46 rfl rfl rfl (fun _ s => s) (fun _ _ _ hF hq w s => by obtain ⟨e, _⟩ := hq; subst e; exact s.mono hF) ?_; rintro u1 F1 _ hF1 ⟨rfl, h1⟩; refine aFH hF1 ?_
  refine aB (i := 7) (by kernel_rfl) ?_
  refine aC (Hc := []) (Hr := blk b 31 x.cells :: X) rfl (Put_p _ _ _ _ F1 h1 (uN_lt _) (by simp [pl8])) Try.call46 rfl rfl rfl (fun _ s => s) (fun _ _ _ hF hq w s => by obtain ⟨e, _⟩ := hq; subst e; exact s.mono hF) ?_; rintro u2 F2 _ hF2 ⟨rfl, h2⟩; refine aFH hF2 ?_
  refine aT 8 rfl (ev_pv rfl) rfl rfl ?_ ?_ ?_ ?_; kernel_rfl; kernel_rfl; kernel_rfl
  refine aD (by kernel_rfl) ?_
  repeat (first|refine zJ rfl rfl ?_|refine jr rfl ?_|refine jn ?_|refine zM rfl rfl ?_|(refine zC rfl rfl ?_ rfl ?_;omega)|(refine zD rfl rfl ?_ rfl ?_;omega)|(refine zP rfl ?_ rfl ?_;omega)|refine zG rfl rfl rfl rfl ?_|(refine jdq rfl rfl ?_ ?_ ?_;kernel_rfl;kernel_rfl)|refine zB rfl rfl rfl (by repeat constructor) rfl ?_|refine zH .here rfl rfl rfl rfl ?_|refine zH (.there .here) rfl rfl rfl rfl ?_|refine zH (.there (.there .here)) rfl rfl rfl rfl ?_)
  refine ja F2 (blk b 31 x.cells :: X) ?_ ?_ ?_; kernel_rfl
  · exact fun w s => s
  refine aT 0 rfl (ev_pv rfl) rfl rfl ?_ ?_ ?_ ?_; kernel_rfl; kernel_rfl; kernel_rfl
  refine aT 1 rfl (ev_fieldAddr rfl rfl) rfl rfl ?_ ?_ ?_ ?_; kernel_rfl; kernel_rfl; kernel_rfl
  refine aT 2 rfl (ev_load rfl rfl (Rdb.ofB (n := 0) .here rfl)) rfl rfl ?_ ?_ ?_ ?_; kernel_rfl; kernel_rfl; kernel_rfl
  refine aT 3 rfl (ev_conv rfl rfl rfl (uN_wrap _)) rfl rfl ?_ ?_ ?_ ?_; kernel_rfl; kernel_rfl; kernel_rfl
  refine aT 5 rfl (ev_fieldAddr rfl rfl) rfl rfl ?_ ?_ ?_ ?_; kernel_rfl; kernel_rfl; kernel_rfl
  refine aT 6 rfl (ev_load rfl rfl (Rdb.ofB (n := 0) .here rfl)) rfl rfl ?_ ?_ ?_ ?_; kernel_rfl; kernel_rfl; kernel_rfl
  refine aT 7 rfl (ev_conv rfl rfl rfl (uN_wrap _)) rfl rfl ?_ ?_ ?_ ?_; kernel_rfl; kernel_rfl; kernel_rfl
  refine aB (i := 4) (by kernel_rfl) ?_
  refine aC (Hc := []) (Hr := blk b 31 x.cells :: X) rfl (Put_p _ _ _ _ F2 h2 (uN_lt _) (by simp [pl8, pl1])) Try.call46 rfl rfl rfl (fun _ s => s) (fun _ _ _ hF hq w s => by obtain ⟨e, _⟩ := hq; subst e; exact s.mono hF) ?_; rintro u3 F3 _ hF3 ⟨rfl, h3⟩; refine aFH hF3 ?_
  refine aB (i := 8) (by kernel_rfl) ?_
  refine aC (Hc := []) (Hr := blk b 31 x.cells :: X) rfl (Put_p _ _ _ _ F3 h3 (uN_lt _) (by simp [pl8, pl1])) Try.call46 rfl rfl rfl (fun _ s => s) (fun _ _ _ hF hq w s => by obtain ⟨e, _⟩ := hq; subst e; exact s.mono hF) ?_; rintro u4 F4 _ hF4 ⟨rfl, h4⟩; refine aFH hF4 ?_
  refine aT 9 rfl (ev_pv rfl) rfl rfl ?_ ?_ ?_ ?_; kernel_rfl; kernel_rfl; kernel_rfl
  refine aD (by kernel_rfl) ?_
  repeat (first|refine zJ rfl rfl ?_|refine jr rfl ?_|refine jn ?_|refine zM rfl rfl ?_|(refine zC rfl rfl ?_ rfl ?_;omega)|(refine zD rfl rfl ?_ rfl ?_;omega)|(refine zP rfl ?_ rfl ?_;omega)|refine zG rfl rfl rfl rfl ?_|(refine jdq rfl rfl ?_ ?_ ?_;kernel_rfl;kernel_rfl)|refine zB rfl rfl rfl (by repeat constructor) rfl ?_|refine zH .here rfl rfl rfl rfl ?_|refine zH (.there .here) rfl rfl rfl rfl ?_|refine zH (.there (.there .here)) rfl rfl rfl rfl ?_)
  exact J_retv rfl (.tmp rfl .nil) [] (fun w s => s.drop) (hF1.trans (hF2.trans (hF3.trans hF4))) ⟨rfl, h4⟩
end Go.Proofs.Ytaggonhgafggkaa
namespace Go.Proofs.Ytaggonhgafggkaa
open Go.RowKit
set_option maxRecDepth 100000
def INumQ (R : Nat → Value → Int → Asrt) (b : Nat) (r : Nat × Int × List UInt8) (u : Value) (F' : PH) (H' : List Asrt) : Prop := ∃ v', u = .int .i64 (iN r.1) ∧ Byt F' v' r.2.2 ∧ H' = [R b v' r.2.1]
theorem num_spec (b : Nat) (v : Value) (e : Int) (bs : List UInt8) (F : PH) (h : Byt F v bs) (hl : bs.length ≤ 1099511627776) :
    Spec Try.prog 48 [.pointer (some ⟨b, 0, none⟩)] F [rdr b v e] (INumQ rdr b (numR e bs 8)) := by
  refine Spec.of1 Try.func48 rfl rfl fun X w0 => ?_
  show J _ _ _ _ (rdr b _ e :: X)
  repeat (first|refine zJ rfl rfl ?_|refine jr rfl ?_|refine jn ?_|refine zM rfl rfl ?_|(refine zC rfl rfl ?_ rfl ?_;omega)|(refine zD rfl rfl ?_ rfl ?_;omega)|(refine zP rfl ?_ rfl ?_;omega)|refine zG rfl rfl rfl rfl ?_|(refine jdq rfl rfl ?_ ?_ ?_;kernel_rfl;kernel_rfl)|refine zB rfl rfl rfl (by repeat constructor) rfl ?_|refine zH .here rfl rfl rfl rfl ?_|refine zH (.there .here) rfl rfl rfl rfl ?_|refine zH (.there (.there .here)) rfl rfl rfl rfl ?_)
  refine oC (Hc := [rdr b v e]) (Hr := X) (number_spec b v e 8 bs F h hl) Try.call73 rfl rfl (fun _ s => s) ?_
  rintro _ F1 _ hF1 ⟨v1, rfl, hv1, rfl⟩
  repeat (first|refine zJ rfl rfl ?_|refine jr rfl ?_|refine jn ?_|refine zM rfl rfl ?_|(refine zC rfl rfl ?_ rfl ?_;omega)|(refine zD rfl rfl ?_ rfl ?_;omega)|(refine zP rfl ?_ rfl ?_;omega)|refine zG rfl rfl rfl rfl ?_|(refine jdq rfl rfl ?_ ?_ ?_;kernel_rfl;kernel_rfl)|refine zB rfl rfl rfl (by repeat constructor) rfl ?_|refine zH .here rfl rfl rfl rfl ?_|refine zH (.there .here) rfl rfl rfl rfl ?_|refine zH (.there (.there .here)) rfl rfl rfl rfl ?_)
  refine oS (ev_conv rfl rfl rfl (iN_wrap _)) rfl ?_
  repeat (first|refine zJ rfl rfl ?_|refine jr rfl ?_|refine jn ?_|refine zM rfl rfl ?_|(refine zC rfl rfl ?_ rfl ?_;omega)|(refine zD rfl rfl ?_ rfl ?_;omega)|(refine zP rfl ?_ rfl ?_;omega)|refine zG rfl rfl rfl rfl ?_|(refine jdq rfl rfl ?_ ?_ ?_;kernel_rfl;kernel_rfl)|refine zB rfl rfl rfl (by repeat constructor) rfl ?_|refine zH .here rfl rfl rfl rfl ?_|refine zH (.there .here) rfl rfl rfl rfl ?_|refine zH (.there (.there .here)) rfl rfl rfl rfl ?_)
  exact J_retv rfl (.tmp rfl .nil) [rdr b v1 _] (fun w s => s) hF1 ⟨v1, rfl, hv1, rfl⟩
theorem small_spec (b : Nat) (v : Value) (e : Int) (bs : List UInt8) (F : PH) (h : Byt F v bs) (hl : bs.length ≤ 1099511627776) :
    Spec Try.prog 54 [.pointer (some ⟨b, 0, none⟩)] F [rdr b v e] (INumQ rdr b (numR e bs 1)) := by
  refine Spec.of1 Try.func54 rfl rfl fun X w0 => ?_
  show J _ _ _ _ (rdr b _ e :: X)
  repeat (first|refine zJ rfl rfl ?_|refine jr rfl ?_|refine jn ?_|refine zM rfl rfl ?_|(refine zC rfl rfl ?_ rfl ?_;omega)|(refine zD rfl rfl ?_ rfl ?_;omega)|(refine zP rfl ?_ rfl ?_;omega)|refine zG rfl rfl rfl rfl ?_|(refine jdq rfl rfl ?_ ?_ ?_;kernel_rfl;kernel_rfl)|refine zB rfl rfl rfl (by repeat constructor) rfl ?_|refine zH .here rfl rfl rfl rfl ?_|refine zH (.there .here) rfl rfl rfl rfl ?_|refine zH (.there (.there .here)) rfl rfl rfl rfl ?_)
  refine oC (Hc := [rdr b v e]) (Hr := X) (number_spec b v e 1 bs F h hl) Try.call73 rfl rfl (fun _ s => s) ?_
  rintro _ F1 _ hF1 ⟨v1, rfl, hv1, rfl⟩
  repeat (first|refine zJ rfl rfl ?_|refine jr rfl ?_|refine jn ?_|refine zM rfl rfl ?_|(refine zC rfl rfl ?_ rfl ?_;omega)|(refine zD rfl rfl ?_ rfl ?_;omega)|(refine zP rfl ?_ rfl ?_;omega)|refine zG rfl rfl rfl rfl ?_|(refine jdq rfl rfl ?_ ?_ ?_;kernel_rfl;kernel_rfl)|refine zB rfl rfl rfl (by repeat constructor) rfl ?_|refine zH .here rfl rfl rfl rfl ?_|refine zH (.there .here) rfl rfl rfl rfl ?_|refine zH (.there (.there .here)) rfl rfl rfl rfl ?_)
  refine oS (ev_conv rfl rfl rfl (iN_wrap _)) rfl ?_
  repeat (first|refine zJ rfl rfl ?_|refine jr rfl ?_|refine jn ?_|refine zM rfl rfl ?_|(refine zC rfl rfl ?_ rfl ?_;omega)|(refine zD rfl rfl ?_ rfl ?_;omega)|(refine zP rfl ?_ rfl ?_;omega)|refine zG rfl rfl rfl rfl ?_|(refine jdq rfl rfl ?_ ?_ ?_;kernel_rfl;kernel_rfl)|refine zB rfl rfl rfl (by repeat constructor) rfl ?_|refine zH .here rfl rfl rfl rfl ?_|refine zH (.there .here) rfl rfl rfl rfl ?_|refine zH (.there (.there .here)) rfl rfl rfl rfl ?_)
  exact J_retv rfl (.tmp rfl .nil) [rdr b v1 _] (fun w s => s) hF1 ⟨v1, rfl, hv1, rfl⟩
def DigQ (R : Nat → Value → Int → Asrt) (b : Nat) (r : List UInt8 × Int × List UInt8) (u : Value) (F' : PH) (H' : List Asrt) : Prop := ∃ v', u = .agg (u8s (pad32 r.1)).toArray ∧ Byt F' v' r.2.2 ∧ H' = [R b v' r.2.1]
set_option maxHeartbeats 8000000 in
theorem digest_spec (b : Nat) (v : Value) (e : Int) (bs : List UInt8) (F : PH) (h : Byt F v bs) (hl : bs.length ≤ 1048576) :
    Spec Try.prog 49 [.pointer (some ⟨b, 0, none⟩)] F [rdr b v e] (DigQ rdr b (fixR e bs 32)) := by
  refine Spec.of1 Try.func49 rfl rfl fun X w0 => ?_
  refine jc rfl rfl ?_
  refine jr rfl ?_
  refine oE (ev_alloc (cs := z32) rfl) rfl ?_
  rintro _ _ _ _ ⟨rfl, b6, rfl, rfl⟩
  repeat (first|refine zJ rfl rfl ?_|refine jr rfl ?_|refine jn ?_|refine zM rfl rfl ?_|(refine zC rfl rfl ?_ rfl ?_;omega)|(refine zD rfl rfl ?_ rfl ?_;omega)|(refine zP rfl ?_ rfl ?_;omega)|refine zG rfl rfl rfl rfl ?_|(refine jdq rfl rfl ?_ ?_ ?_;kernel_rfl;kernel_rfl)|refine zB rfl rfl rfl (by repeat constructor) rfl ?_|refine zH .here rfl rfl rfl rfl ?_|refine zH (.there .here) rfl rfl rfl rfl ?_|refine zH (.there (.there .here)) rfl rfl rfl rfl ?_)
  refine ja F [] ?_ ?_ ?_; kernel_rfl
  · exact fun w s => s.bare
  refine aT 0 rfl (ev_slice_arr rfl rfl) rfl rfl ?_ ?_ ?_ ?_; kernel_rfl; kernel_rfl; kernel_rfl
  refine aT 1 rfl (ev_pv rfl) rfl rfl ?_ ?_ ?_ ?_; kernel_rfl; kernel_rfl; kernel_rfl
  refine aB (i := 2) (by kernel_rfl) (aC (Hc := [rdr b v e]) (Hr := blk b6 23 z32 :: X) rfl (fixed_spec b v e 32 bs F h (by omega)) Try.call82 rfl rfl rfl (fun _ s => s.pick (.there .here)) (fun _ _ _ hF _ w s => (s.mono hF).bare) ?_)
  rintro u G2 _ hG2 ⟨v6, hu6, hv6, rfl⟩
  refine aF hG2 ?_
  have h32 := fixR_le32 e bs
  generalize hr6 : fixR e bs 32 = r6 at *
  obtain ⟨a6, c6, rfl, hc6⟩ := hu6.form
  refine aB (i := 3) (by kernel_rfl) (aE rfl (ev_copy (k := r6.1.length) rfl rfl rfl hu6.rds (u8s_ones _) (by rcases h32 with h | h <;> rw [h] <;> rfl) (by rw [← u8s_len, List.take_length]) (lay_pad h32) (.there .here)) rfl rfl ?_ ?_)
  · rintro _ _ _ _ ⟨rfl, rfl, rfl⟩ w s
    exact s.bare
  rintro _ _ _ _ ⟨rfl, rfl, rfl⟩
  refine aD (by kernel_rfl) ?_
  have hp32 := pad32_len h32
  repeat (first|refine zJ rfl rfl ?_|refine jr rfl ?_|refine jn ?_|refine zM rfl rfl ?_|(refine zC rfl rfl ?_ rfl ?_;omega)|(refine zD rfl rfl ?_ rfl ?_;omega)|(refine zP rfl ?_ rfl ?_;omega)|refine zG rfl rfl rfl rfl ?_|(refine jdq rfl rfl ?_ ?_ ?_;kernel_rfl;kernel_rfl)|refine zB rfl rfl rfl (by repeat constructor) rfl ?_|refine zH .here rfl rfl rfl rfl ?_|refine zH (.there .here) rfl rfl rfl rfl ?_|refine zH (.there (.there .here)) rfl rfl rfl rfl ?_)
  refine oS (ev_load_agg (cs := u8s (pad32 r6.1)) rfl rfl (Rdb.ofB (n := 0) (.there .here) (by rw [List.drop_zero, List.take_length])) (by rw [u8s_len]; exact hp32)) rfl ?_
  refine oN (ev_store (b := b6) rfl rfl .agg rfl (by rw [u8s_len]; exact hp32) (lay_all (zs := u8s (pad32 r6.1)) rfl) (u8s_ones _) (.there .here)) rfl ?_
  rintro _ _ _ _ ⟨rfl, _, rfl⟩
  repeat (first|refine zJ rfl rfl ?_|refine jr rfl ?_|refine jn ?_|refine zM rfl rfl ?_|(refine zC rfl rfl ?_ rfl ?_;omega)|(refine zD rfl rfl ?_ rfl ?_;omega)|(refine zP rfl ?_ rfl ?_;omega)|refine zG rfl rfl rfl rfl ?_|(refine jdq rfl rfl ?_ ?_ ?_;kernel_rfl;kernel_rfl)|refine zB rfl rfl rfl (by repeat constructor) rfl ?_|refine zH .here rfl rfl rfl rfl ?_|refine zH (.there .here) rfl rfl rfl rfl ?_|refine zH (.there (.there .here)) rfl rfl rfl rfl ?_)
  exact J_retv (vs := [.agg (u8s (pad32 r6.1)).toArray]) rfl (.agg rfl rfl (Rdb.ofB (n := 0) (.there .here) (by rw [List.drop_zero, List.take_length])) (by rw [u8s_len]; exact hp32) .nil) [rdr b v6 r6.2.1] (fun w s => (s.pick (.there .here)).drop) hG2 ⟨v6, rfl, hv6, rfl⟩
set_option maxHeartbeats 8000000 in
theorem ReadDigest_spec (b : Nat) (v : Value) (e : Int) (bs : List UInt8) (F : PH) (h : Byt F v bs) (hl : bs.length ≤ 1048576) :
    Spec Try.prog 58 [.pointer (some ⟨b, 0, none⟩)] F [Rdr b v e] (DigQ Rdr b (fixR e bs 32)) := by
  refine Spec.of1 Try.func58 rfl rfl fun X w0 => ?_
  refine jc rfl rfl ?_
  refine jr rfl ?_
  refine oE (ev_alloc (cs := z32) rfl) rfl ?_
  rintro _ _ _ _ ⟨rfl, b5, rfl, rfl⟩
  repeat (first|refine zJ rfl rfl ?_|refine jr rfl ?_|refine jn ?_|refine zM rfl rfl ?_|(refine zC rfl rfl ?_ rfl ?_;omega)|(refine zD rfl rfl ?_ rfl ?_;omega)|(refine zP rfl ?_ rfl ?_;omega)|refine zG rfl rfl rfl rfl ?_|(refine jdq rfl rfl ?_ ?_ ?_;kernel_rfl;kernel_rfl)|refine zB rfl rfl rfl (by repeat constructor) rfl ?_|refine zH .here rfl rfl rfl rfl ?_|refine zH (.there .here) rfl rfl rfl rfl ?_|refine zH (.there (.there .here)) rfl rfl rfl rfl ?_)
  refine oE (ev_alloc (cs := z32) rfl) rfl ?_
  rintro _ _ _ _ ⟨rfl, b6, rfl, rfl⟩
  repeat (first|refine zJ rfl rfl ?_|refine jr rfl ?_|refine jn ?_|refine zM rfl rfl ?_|(refine zC rfl rfl ?_ rfl ?_;omega)|(refine zD rfl rfl ?_ rfl ?_;omega)|(refine zP rfl ?_ rfl ?_;omega)|refine zG rfl rfl rfl rfl ?_|(refine jdq rfl rfl ?_ ?_ ?_;kernel_rfl;kernel_rfl)|refine zB rfl rfl rfl (by repeat constructor) rfl ?_|refine zH .here rfl rfl rfl rfl ?_|refine zH (.there .here) rfl rfl rfl rfl ?_|refine zH (.there (.there .here)) rfl rfl rfl rfl ?_)
  refine oC (Hc := [Rdr b v e]) (Hr := blk b6 23 z32 :: blk b5 23 z32 :: X) (Fixed_spec b v e 32 bs F h (by omega)) Try.call77 rfl rfl (fun _ s => s.pick (.there (.there .here))) ?_
  rintro u G2 _ hG2 ⟨v6, hu6, hv6, rfl⟩
  have h32 := fixR_le32 e bs
  generalize hr6 : fixR e bs 32 = r6 at *
  have hp32 := pad32_len h32
  obtain ⟨a6, c6, rfl, hc6⟩ := hu6.form
  have hle32 : r6.1.length ≤ 32 := by omega
  repeat (first|refine zJ rfl rfl ?_|refine jr rfl ?_|refine jn ?_|refine zM rfl rfl ?_|(refine zC rfl rfl ?_ rfl ?_;omega)|(refine zD rfl rfl ?_ rfl ?_;omega)|(refine zP rfl ?_ rfl ?_;omega)|refine zG rfl rfl rfl rfl ?_|(refine jdq rfl rfl ?_ ?_ ?_;kernel_rfl;kernel_rfl)|refine zB rfl rfl rfl (by repeat constructor) rfl ?_|refine zH .here rfl rfl rfl rfl ?_|refine zH (.there .here) rfl rfl rfl rfl ?_|refine zH (.there (.there .here)) rfl rfl rfl rfl ?_)
  refine J_loop (ι := Nat) (fun y => y ≤ r6.1.length) (fun y => r6.1.length - y) (fun y => [(2, .pointer (some ⟨b5, 0, none⟩)), (3, .pointer (some ⟨b6, 0, none⟩)), (7, .slice a6 r6.1.length c6), (8, .int .i64 r6.1.length), (9, .int .i64 y)]) (fun _ => G2) (fun y => Rdr b v6 r6.2.1 :: blk b6 23 (wr32 r6.1 y) :: blk b5 23 z32 :: X) 0 (Nat.zero_le _) ⟨⟨rfl, rfl, rfl, rfl, rfl, trivial⟩, fun w s => s⟩ ?_
  intro y hy
  by_cases hyl : y < r6.1.length
  · have hgy : r6.1[y]? = some r6.1[y] := List.getElem?_eq_getElem hyl
    have hset := wr32_set hle32 hgy
    have hwl := wr32_len hle32 hy
    obtain ⟨b9, o9, rfl, hcc⟩ := Byt.at hu6 hyl
    generalize r6.1[y] = x at *
    repeat (first|refine zJ rfl rfl ?_|refine jr rfl ?_|refine jn ?_|refine zM rfl rfl ?_|(refine zC rfl rfl ?_ rfl ?_;omega)|(refine zD rfl rfl ?_ rfl ?_;omega)|(refine zP rfl ?_ rfl ?_;omega)|refine zG rfl rfl rfl rfl ?_|(refine jdq rfl rfl ?_ ?_ ?_;kernel_rfl;kernel_rfl)|refine zB rfl rfl rfl (by repeat constructor) rfl ?_|refine zH .here rfl rfl rfl rfl ?_|refine zH (.there .here) rfl rfl rfl rfl ?_|refine zH (.there (.there .here)) rfl rfl rfl rfl ?_)
    refine oS (ev_indexAddr rfl rfl rfl hyl) rfl ?_
    refine oS (ev_load rfl rfl (Rdb.ofF hcc)) rfl ?_
    repeat (first|refine zJ rfl rfl ?_|refine jr rfl ?_|refine jn ?_|refine zM rfl rfl ?_|(refine zC rfl rfl ?_ rfl ?_;omega)|(refine zD rfl rfl ?_ rfl ?_;omega)|(refine zP rfl ?_ rfl ?_;omega)|refine zG rfl rfl rfl rfl ?_|(refine jdq rfl rfl ?_ ?_ ?_;kernel_rfl;kernel_rfl)|refine zB rfl rfl rfl (by repeat constructor) rfl ?_|refine zH .here rfl rfl rfl rfl ?_|refine zH (.there .here) rfl rfl rfl rfl ?_|refine zH (.there (.there .here)) rfl rfl rfl rfl ?_)
    refine oS (ev_indexAddr_arr (i := y) rfl rfl rfl (by omega)) rfl ?_
    refine oN (ev_store (b := b6) (off := 0 + y * 1) rfl rfl .int rfl rfl (by rw [Nat.zero_add, Nat.mul_one]; exact lay_set _ (by omega)) (ones_cons rfl ones_nil) (.there .here)) rfl ?_
    rintro _ _ _ _ ⟨rfl, _, rfl⟩
    rw [hset]
    repeat (first|refine zJ rfl rfl ?_|refine jr rfl ?_|refine jn ?_|refine zM rfl rfl ?_|(refine zC rfl rfl ?_ rfl ?_;omega)|(refine zD rfl rfl ?_ rfl ?_;omega)|(refine zP rfl ?_ rfl ?_;omega)|refine zG rfl rfl rfl rfl ?_|(refine jdq rfl rfl ?_ ?_ ?_;kernel_rfl;kernel_rfl)|refine zB rfl rfl rfl (by repeat constructor) rfl ?_|refine zH .here rfl rfl rfl rfl ?_|refine zH (.there .here) rfl rfl rfl rfl ?_|refine zH (.there (.there .here)) rfl rfl rfl rfl ?_)
    exact J_again (y + 1) hyl (by omega) ⟨⟨rfl, rfl, rfl, rfl, rfl, trivial⟩, fun w s => s⟩
  · obtain rfl : y = r6.1.length := by omega
    rw [wr32_end]
    repeat (first|refine zJ rfl rfl ?_|refine jr rfl ?_|refine jn ?_|refine zM rfl rfl ?_|(refine zC rfl rfl ?_ rfl ?_;omega)|(refine zD rfl rfl ?_ rfl ?_;omega)|(refine zP rfl ?_ rfl ?_;omega)|refine zG rfl rfl rfl rfl ?_|(refine jdq rfl rfl ?_ ?_ ?_;kernel_rfl;kernel_rfl)|refine zB rfl rfl rfl (by repeat constructor) rfl ?_|refine zH .here rfl rfl rfl rfl ?_|refine zH (.there .here) rfl rfl rfl rfl ?_|refine zH (.there (.there .here)) rfl rfl rfl rfl ?_)
    refine oS (ev_load_agg (cs := u8s (pad32 r6.1)) rfl rfl (Rdb.ofB (n := 0) (.there .here) (by rw [List.drop_zero, List.take_length])) (by rw [u8s_len]; exact hp32)) rfl ?_
    refine oN (ev_store (b := b5) rfl rfl .agg rfl (by rw [u8s_len]; exact hp32) (lay_all (zs := z32) (by rw [u8s_len]; exact hp32)) (u8s_ones _) (.there (.there .here))) rfl ?_
    rintro _ _ _ _ ⟨rfl, _, rfl⟩
    repeat (first|refine zJ rfl rfl ?_|refine jr rfl ?_|refine jn ?_|refine zM rfl rfl ?_|(refine zC rfl rfl ?_ rfl ?_;omega)|(refine zD rfl rfl ?_ rfl ?_;omega)|(refine zP rfl ?_ rfl ?_;omega)|refine zG rfl rfl rfl rfl ?_|(refine jdq rfl rfl ?_ ?_ ?_;kernel_rfl;kernel_rfl)|refine zB rfl rfl rfl (by repeat constructor) rfl ?_|refine zH .here rfl rfl rfl rfl ?_|refine zH (.there .here) rfl rfl rfl rfl ?_|refine zH (.there (.there .here)) rfl rfl rfl rfl ?_)
    exact J_retv (vs := [.agg (u8s (pad32 r6.1)).toArray]) rfl (.agg rfl rfl (Rdb.ofB (n := 0) (.there (.there .here)) (by rw [List.drop_zero, List.take_length])) (by rw [u8s_len]; exact hp32) .nil) [Rdr b v6 r6.2.1] (fun w s => ((s.pick (.there .here)).drop.pick (.there .here)).drop) hG2 ⟨v6, rfl, hv6, rfl⟩
/-! what is asked of numbers -/
def viewB (v : Int) : Bool := decide (0 ≤ v ∧ v ≤ 1048576)
def stampB (v : Int) : Bool := decide (1 ≤ v ∧ v ≤ 1099511627776)
def clB (n c : Int) : Bool := decide (n ≤ c ∧ c < n + 4)
theorem view_spec (v : Int) (F : PH) : Pure Try.prog 51 [.int .i64 v] F (.bool (viewB v)) := by
  refine Spec.of1 Try.func51 rfl rfl fun X w0 => ?_
  unfold viewB
  by_cases h1 : 0 ≤ v
  · by_cases h2 : v ≤ 1048576
    · rw [decide_eq_true ⟨h1, h2⟩]
      repeat (first|refine zJ rfl rfl ?_|refine jr rfl ?_|refine jn ?_|refine zM rfl rfl ?_|(refine zC rfl rfl ?_ rfl ?_;omega)|(refine zD rfl rfl ?_ rfl ?_;omega)|(refine zP rfl ?_ rfl ?_;omega)|refine zG rfl rfl rfl rfl ?_|(refine jdq rfl rfl ?_ ?_ ?_;kernel_rfl;kernel_rfl)|refine zB rfl rfl rfl (by repeat constructor) rfl ?_)
      exact J_retv rfl (.tmp rfl .nil) [] (fun w s => s) (PH.ler _) ⟨rfl, rfl⟩
    · rw [decide_eq_false (fun h => h2 h.2)]
      repeat (first|refine zJ rfl rfl ?_|refine jr rfl ?_|refine jn ?_|refine zM rfl rfl ?_|(refine zC rfl rfl ?_ rfl ?_;omega)|(refine zD rfl rfl ?_ rfl ?_;omega)|(refine zP rfl ?_ rfl ?_;omega)|refine zG rfl rfl rfl rfl ?_|(refine jdq rfl rfl ?_ ?_ ?_;kernel_rfl;kernel_rfl)|refine zB rfl rfl rfl (by repeat constructor) rfl ?_)
      exact J_retv rfl (.tmp rfl .nil) [] (fun w s => s) (PH.ler _) ⟨rfl, rfl⟩
  · rw [decide_eq_false (fun h => h1 h.1)]
    repeat (first|refine zJ rfl rfl ?_|refine jr rfl ?_|refine jn ?_|refine zM rfl rfl ?_|(refine zC rfl rfl ?_ rfl ?_;omega)|(refine zD rfl rfl ?_ rfl ?_;omega)|(refine zP rfl ?_ rfl ?_;omega)|refine zG rfl rfl rfl rfl ?_|(refine jdq rfl rfl ?_ ?_ ?_;kernel_rfl;kernel_rfl)|refine zB rfl rfl rfl (by repeat constructor) rfl ?_)
    exact J_retv rfl (.tmp rfl .nil) [] (fun w s => s) (PH.ler _) ⟨rfl, rfl⟩
theorem seq_spec (v : Int) (F : PH) : Pure Try.prog 52 [.int .i64 v] F (.bool (viewB v)) := by
  refine Spec.of1 Try.func52 rfl rfl fun X w0 => ?_
  unfold viewB
  by_cases h1 : 0 ≤ v
  · by_cases h2 : v ≤ 1048576
    · rw [decide_eq_true ⟨h1, h2⟩]
      repeat (first|refine zJ rfl rfl ?_|refine jr rfl ?_|refine jn ?_|refine zM rfl rfl ?_|(refine zC rfl rfl ?_ rfl ?_;omega)|(refine zD rfl rfl ?_ rfl ?_;omega)|(refine zP rfl ?_ rfl ?_;omega)|refine zG rfl rfl rfl rfl ?_|(refine jdq rfl rfl ?_ ?_ ?_;kernel_rfl;kernel_rfl)|refine zB rfl rfl rfl (by repeat constructor) rfl ?_)
      exact J_retv rfl (.tmp rfl .nil) [] (fun w s => s) (PH.ler _) ⟨rfl, rfl⟩
    · rw [decide_eq_false (fun h => h2 h.2)]
      repeat (first|refine zJ rfl rfl ?_|refine jr rfl ?_|refine jn ?_|refine zM rfl rfl ?_|(refine zC rfl rfl ?_ rfl ?_;omega)|(refine zD rfl rfl ?_ rfl ?_;omega)|(refine zP rfl ?_ rfl ?_;omega)|refine zG rfl rfl rfl rfl ?_|(refine jdq rfl rfl ?_ ?_ ?_;kernel_rfl;kernel_rfl)|refine zB rfl rfl rfl (by repeat constructor) rfl ?_)
      exact J_retv rfl (.tmp rfl .nil) [] (fun w s => s) (PH.ler _) ⟨rfl, rfl⟩
  · rw [decide_eq_false (fun h => h1 h.1)]
    repeat (first|refine zJ rfl rfl ?_|refine jr rfl ?_|refine jn ?_|refine zM rfl rfl ?_|(refine zC rfl rfl ?_ rfl ?_;omega)|(refine zD rfl rfl ?_ rfl ?_;omega)|(refine zP rfl ?_ rfl ?_;omega)|refine zG rfl rfl rfl rfl ?_|(refine jdq rfl rfl ?_ ?_ ?_;kernel_rfl;kernel_rfl)|refine zB rfl rfl rfl (by repeat constructor) rfl ?_)
    exact J_retv rfl (.tmp rfl .nil) [] (fun w s => s) (PH.ler _) ⟨rfl, rfl⟩
theorem View_spec (v : Int) (F : PH) : Pure Try.prog 28 [.int .i64 v] F (.bool (viewB v)) := by
  refine Spec.of1 Try.func28 rfl rfl fun X w0 => ?_
  unfold viewB
  by_cases h1 : 0 ≤ v
  · by_cases h2 : v ≤ 1048576
    · rw [decide_eq_true ⟨h1, h2⟩]
      repeat (first|refine zJ rfl rfl ?_|refine jr rfl ?_|refine jn ?_|refine zM rfl rfl ?_|(refine zC rfl rfl ?_ rfl ?_;omega)|(refine zD rfl rfl ?_ rfl ?_;omega)|(refine zP rfl ?_ rfl ?_;omega)|refine zG rfl rfl rfl rfl ?_|(refine jdq rfl rfl ?_ ?_ ?_;kernel_rfl;kernel_rfl)|refine zB rfl rfl rfl (by repeat constructor) rfl ?_)
      exact J_retv rfl (.tmp rfl .nil) [] (fun w s => s) (PH.ler _) ⟨rfl, rfl⟩
    · rw [decide_eq_false (fun h => h2 h.2)]
      repeat (first|refine zJ rfl rfl ?_|refine jr rfl ?_|refine jn ?_|refine zM rfl rfl ?_|(refine zC rfl rfl ?_ rfl ?_;omega)|(refine zD rfl rfl ?_ rfl ?_;omega)|(refine zP rfl ?_ rfl ?_;omega)|refine zG rfl rfl rfl rfl ?_|(refine jdq rfl rfl ?_ ?_ ?_;kernel_rfl;kernel_rfl)|refine zB rfl rfl rfl (by repeat constructor) rfl ?_)
      exact J_retv rfl (.tmp rfl .nil) [] (fun w s => s) (PH.ler _) ⟨rfl, rfl⟩
  · rw [decide_eq_false (fun h => h1 h.1)]
    repeat (first|refine zJ rfl rfl ?_|refine jr rfl ?_|refine jn ?_|refine zM rfl rfl ?_|(refine zC rfl rfl ?_ rfl ?_;omega)|(refine zD rfl rfl ?_ rfl ?_;omega)|(refine zP rfl ?_ rfl ?_;omega)|refine zG rfl rfl rfl rfl ?_|(refine jdq rfl rfl ?_ ?_ ?_;kernel_rfl;kernel_rfl)|refine zB rfl rfl rfl (by repeat constructor) rfl ?_)
    exact J_retv rfl (.tmp rfl .nil) [] (fun w s => s) (PH.ler _) ⟨rfl, rfl⟩
theorem Seq_spec (v : Int) (F : PH) : Pure Try.prog 29 [.int .i64 v] F (.bool (viewB v)) := by
  refine Spec.of1 Try.func29 rfl rfl fun X w0 => ?_
  unfold viewB
  by_cases h1 : 0 ≤ v
  · by_cases h2 : v ≤ 1048576
    · rw [decide_eq_true ⟨h1, h2⟩]
      repeat (first|refine zJ rfl rfl ?_|refine jr rfl ?_|refine jn ?_|refine zM rfl rfl ?_|(refine zC rfl rfl ?_ rfl ?_;omega)|(refine zD rfl rfl ?_ rfl ?_;omega)|(refine zP rfl ?_ rfl ?_;omega)|refine zG rfl rfl rfl rfl ?_|(refine jdq rfl rfl ?_ ?_ ?_;kernel_rfl;kernel_rfl)|refine zB rfl rfl rfl (by repeat constructor) rfl ?_)
      exact J_retv rfl (.tmp rfl .nil) [] (fun w s => s) (PH.ler _) ⟨rfl, rfl⟩
    · rw [decide_eq_false (fun h => h2 h.2)]
      repeat (first|refine zJ rfl rfl ?_|refine jr rfl ?_|refine jn ?_|refine zM rfl rfl ?_|(refine zC rfl rfl ?_ rfl ?_;omega)|(refine zD rfl rfl ?_ rfl ?_;omega)|(refine zP rfl ?_ rfl ?_;omega)|refine zG rfl rfl rfl rfl ?_|(refine jdq rfl rfl ?_ ?_ ?_;kernel_rfl;kernel_rfl)|refine zB rfl rfl rfl (by repeat constructor) rfl ?_)
      exact J_retv rfl (.tmp rfl .nil) [] (fun w s => s) (PH.ler _) ⟨rfl, rfl⟩
  · rw [decide_eq_false (fun h => h1 h.1)]
    repeat (first|refine zJ rfl rfl ?_|refine jr rfl ?_|refine jn ?_|refine zM rfl rfl ?_|(refine zC rfl rfl ?_ rfl ?_;omega)|(refine zD rfl rfl ?_ rfl ?_;omega)|(refine zP rfl ?_ rfl ?_;omega)|refine zG rfl rfl rfl rfl ?_|(refine jdq rfl rfl ?_ ?_ ?_;kernel_rfl;kernel_rfl)|refine zB rfl rfl rfl (by repeat constructor) rfl ?_)
    exact J_retv rfl (.tmp rfl .nil) [] (fun w s => s) (PH.ler _) ⟨rfl, rfl⟩
theorem stamp_spec (v : Int) (F : PH) : Pure Try.prog 56 [.int .i64 v] F (.bool (stampB v)) := by
  refine Spec.of1 Try.func56 rfl rfl fun X w0 => ?_
  unfold stampB
  by_cases h1 : 1 ≤ v
  · by_cases h2 : v ≤ 1099511627776
    · rw [decide_eq_true ⟨h1, h2⟩]
      repeat (first|refine zJ rfl rfl ?_|refine jr rfl ?_|refine jn ?_|refine zM rfl rfl ?_|(refine zC rfl rfl ?_ rfl ?_;omega)|(refine zD rfl rfl ?_ rfl ?_;omega)|(refine zP rfl ?_ rfl ?_;omega)|refine zG rfl rfl rfl rfl ?_|(refine jdq rfl rfl ?_ ?_ ?_;kernel_rfl;kernel_rfl)|refine zB rfl rfl rfl (by repeat constructor) rfl ?_)
      exact J_retv rfl (.tmp rfl .nil) [] (fun w s => s) (PH.ler _) ⟨rfl, rfl⟩
    · rw [decide_eq_false (fun h => h2 h.2)]
      repeat (first|refine zJ rfl rfl ?_|refine jr rfl ?_|refine jn ?_|refine zM rfl rfl ?_|(refine zC rfl rfl ?_ rfl ?_;omega)|(refine zD rfl rfl ?_ rfl ?_;omega)|(refine zP rfl ?_ rfl ?_;omega)|refine zG rfl rfl rfl rfl ?_|(refine jdq rfl rfl ?_ ?_ ?_;kernel_rfl;kernel_rfl)|refine zB rfl rfl rfl (by repeat constructor) rfl ?_)
      exact J_retv rfl (.tmp rfl .nil) [] (fun w s => s) (PH.ler _) ⟨rfl, rfl⟩
  · rw [decide_eq_false (fun h => h1 h.1)]
    repeat (first|refine zJ rfl rfl ?_|refine jr rfl ?_|refine jn ?_|refine zM rfl rfl ?_|(refine zC rfl rfl ?_ rfl ?_;omega)|(refine zD rfl rfl ?_ rfl ?_;omega)|(refine zP rfl ?_ rfl ?_;omega)|refine zG rfl rfl rfl rfl ?_|(refine jdq rfl rfl ?_ ?_ ?_;kernel_rfl;kernel_rfl)|refine zB rfl rfl rfl (by repeat constructor) rfl ?_)
    exact J_retv rfl (.tmp rfl .nil) [] (fun w s => s) (PH.ler _) ⟨rfl, rfl⟩
theorem Stamp_spec (v : Int) (F : PH) : Pure Try.prog 61 [.int .i64 v] F (.bool (stampB v)) := by
  refine Spec.of1 Try.func61 rfl rfl fun X w0 => ?_
  unfold stampB
  by_cases h1 : 1 ≤ v
  · by_cases h2 : v ≤ 1099511627776
    · rw [decide_eq_true ⟨h1, h2⟩]
      repeat (first|refine zJ rfl rfl ?_|refine jr rfl ?_|refine jn ?_|refine zM rfl rfl ?_|(refine zC rfl rfl ?_ rfl ?_;omega)|(refine zD rfl rfl ?_ rfl ?_;omega)|(refine zP rfl ?_ rfl ?_;omega)|refine zG rfl rfl rfl rfl ?_|(refine jdq rfl rfl ?_ ?_ ?_;kernel_rfl;kernel_rfl)|refine zB rfl rfl rfl (by repeat constructor) rfl ?_)
      exact J_retv rfl (.tmp rfl .nil) [] (fun w s => s) (PH.ler _) ⟨rfl, rfl⟩
    · rw [decide_eq_false (fun h => h2 h.2)]
      repeat (first|refine zJ rfl rfl ?_|refine jr rfl ?_|refine jn ?_|refine zM rfl rfl ?_|(refine zC rfl rfl ?_ rfl ?_;omega)|(refine zD rfl rfl ?_ rfl ?_;omega)|(refine zP rfl ?_ rfl ?_;omega)|refine zG rfl rfl rfl rfl ?_|(refine jdq rfl rfl ?_ ?_ ?_;kernel_rfl;kernel_rfl)|refine zB rfl rfl rfl (by repeat constructor) rfl ?_)
      exact J_retv rfl (.tmp rfl .nil) [] (fun w s => s) (PH.ler _) ⟨rfl, rfl⟩
  · rw [decide_eq_false (fun h => h1 h.1)]
    repeat (first|refine zJ rfl rfl ?_|refine jr rfl ?_|refine jn ?_|refine zM rfl rfl ?_|(refine zC rfl rfl ?_ rfl ?_;omega)|(refine zD rfl rfl ?_ rfl ?_;omega)|(refine zP rfl ?_ rfl ?_;omega)|refine zG rfl rfl rfl rfl ?_|(refine jdq rfl rfl ?_ ?_ ?_;kernel_rfl;kernel_rfl)|refine zB rfl rfl rfl (by repeat constructor) rfl ?_)
    exact J_retv rfl (.tmp rfl .nil) [] (fun w s => s) (PH.ler _) ⟨rfl, rfl⟩
theorem client_spec (n c : Int) (F : PH) (hn : 1 ≤ n ∧ n ≤ 7) : Pure Try.prog 55 [.agg #[.int .i64 n], .int .i64 c] F (.bool (clB n c)) := by
  refine Spec.of2 Try.func55 rfl rfl fun X w0 => ?_
  unfold clB
  refine jc rfl rfl ?_
  refine jr rfl ?_
  refine oE (ev_box (cs := [.int .i64 n]) rfl .agg) rfl ?_
  rintro _ _ _ _ ⟨rfl, b, rfl, rfl⟩
  by_cases h1 : n ≤ c
  · by_cases h2 : c < n + 4
    · rw [decide_eq_true ⟨h1, h2⟩]
      repeat (first|refine zJ rfl rfl ?_|refine jr rfl ?_|refine jn ?_|refine zM rfl rfl ?_|(refine zC rfl rfl ?_ rfl ?_;omega)|(refine zD rfl rfl ?_ rfl ?_;omega)|(refine zP rfl ?_ rfl ?_;omega)|refine zG rfl rfl rfl rfl ?_|(refine jdq rfl rfl ?_ ?_ ?_;kernel_rfl;kernel_rfl)|refine zB rfl rfl rfl (by repeat constructor) rfl ?_|refine zH .here rfl rfl rfl rfl ?_|refine zH (.there .here) rfl rfl rfl rfl ?_|refine zH (.there (.there .here)) rfl rfl rfl rfl ?_)
      exact J_retv rfl (.tmp rfl .nil) [] (fun w s => s.drop) (PH.ler _) ⟨rfl, rfl⟩
    · rw [decide_eq_false (fun h => h2 h.2)]
      repeat (first|refine zJ rfl rfl ?_|refine jr rfl ?_|refine jn ?_|refine zM rfl rfl ?_|(refine zC rfl rfl ?_ rfl ?_;omega)|(refine zD rfl rfl ?_ rfl ?_;omega)|(refine zP rfl ?_ rfl ?_;omega)|refine zG rfl rfl rfl rfl ?_|(refine jdq rfl rfl ?_ ?_ ?_;kernel_rfl;kernel_rfl)|refine zB rfl rfl rfl (by repeat constructor) rfl ?_|refine zH .here rfl rfl rfl rfl ?_|refine zH (.there .here) rfl rfl rfl rfl ?_|refine zH (.there (.there .here)) rfl rfl rfl rfl ?_)
      exact J_retv rfl (.tmp rfl .nil) [] (fun w s => s.drop) (PH.ler _) ⟨rfl, rfl⟩
  · rw [decide_eq_false (fun h => h1 h.1)]
    repeat (first|refine zJ rfl rfl ?_|refine jr rfl ?_|refine jn ?_|refine zM rfl rfl ?_|(refine zC rfl rfl ?_ rfl ?_;omega)|(refine zD rfl rfl ?_ rfl ?_;omega)|(refine zP rfl ?_ rfl ?_;omega)|refine zG rfl rfl rfl rfl ?_|(refine jdq rfl rfl ?_ ?_ ?_;kernel_rfl;kernel_rfl)|refine zB rfl rfl rfl (by repeat constructor) rfl ?_|refine zH .here rfl rfl rfl rfl ?_|refine zH (.there .here) rfl rfl rfl rfl ?_|refine zH (.there (.there .here)) rfl rfl rfl rfl ?_)
    exact J_retv rfl (.tmp rfl .nil) [] (fun w s => s.drop) (PH.ler _) ⟨rfl, rfl⟩
theorem Client_spec (n c : Int) (F : PH) (hn : 1 ≤ n ∧ n ≤ 7) : Pure Try.prog 60 [.int .i64 c, .int .i64 n] F (.bool (clB n c)) := by
  refine Spec.of2 Try.func60 rfl rfl fun X w0 => ?_
  unfold clB
  by_cases h1 : n ≤ c
  · by_cases h2 : c < n + 4
    · rw [decide_eq_true ⟨h1, h2⟩]
      repeat (first|refine zJ rfl rfl ?_|refine jr rfl ?_|refine jn ?_|refine zM rfl rfl ?_|(refine zC rfl rfl ?_ rfl ?_;omega)|(refine zD rfl rfl ?_ rfl ?_;omega)|(refine zP rfl ?_ rfl ?_;omega)|refine zG rfl rfl rfl rfl ?_|(refine jdq rfl rfl ?_ ?_ ?_;kernel_rfl;kernel_rfl)|refine zB rfl rfl rfl (by repeat constructor) rfl ?_)
      exact J_retv rfl (.tmp rfl .nil) [] (fun w s => s) (PH.ler _) ⟨rfl, rfl⟩
    · rw [decide_eq_false (fun h => h2 h.2)]
      repeat (first|refine zJ rfl rfl ?_|refine jr rfl ?_|refine jn ?_|refine zM rfl rfl ?_|(refine zC rfl rfl ?_ rfl ?_;omega)|(refine zD rfl rfl ?_ rfl ?_;omega)|(refine zP rfl ?_ rfl ?_;omega)|refine zG rfl rfl rfl rfl ?_|(refine jdq rfl rfl ?_ ?_ ?_;kernel_rfl;kernel_rfl)|refine zB rfl rfl rfl (by repeat constructor) rfl ?_)
      exact J_retv rfl (.tmp rfl .nil) [] (fun w s => s) (PH.ler _) ⟨rfl, rfl⟩
  · rw [decide_eq_false (fun h => h1 h.1)]
    repeat (first|refine zJ rfl rfl ?_|refine jr rfl ?_|refine jn ?_|refine zM rfl rfl ?_|(refine zC rfl rfl ?_ rfl ?_;omega)|(refine zD rfl rfl ?_ rfl ?_;omega)|(refine zP rfl ?_ rfl ?_;omega)|refine zG rfl rfl rfl rfl ?_|(refine jdq rfl rfl ?_ ?_ ?_;kernel_rfl;kernel_rfl)|refine zB rfl rfl rfl (by repeat constructor) rfl ?_)
    exact J_retv rfl (.tmp rfl .nil) [] (fun w s => s) (PH.ler _) ⟨rfl, rfl⟩
theorem odd_spec (n : Int) (F : PH) : Pure Try.prog 53 [.agg #[.int .i64 n]] F (.bool (decide (n < 1 ∨ 7 < n))) := by
  refine Spec.of1 Try.func53 rfl rfl fun X w0 => ?_
  refine jc rfl rfl ?_
  refine jr rfl ?_
  refine oE (ev_box (cs := [.int .i64 n]) rfl .agg) rfl ?_
  rintro _ _ _ _ ⟨rfl, b, rfl, rfl⟩
  by_cases h1 : n < 1
  · rw [decide_eq_true (.inl h1)]
    repeat (first|refine zJ rfl rfl ?_|refine jr rfl ?_|refine jn ?_|refine zM rfl rfl ?_|(refine zC rfl rfl ?_ rfl ?_;omega)|(refine zD rfl rfl ?_ rfl ?_;omega)|(refine zP rfl ?_ rfl ?_;omega)|refine zG rfl rfl rfl rfl ?_|(refine jdq rfl rfl ?_ ?_ ?_;kernel_rfl;kernel_rfl)|refine zB rfl rfl rfl (by repeat constructor) rfl ?_|refine zH .here rfl rfl rfl rfl ?_|refine zH (.there .here) rfl rfl rfl rfl ?_|refine zH (.there (.there .here)) rfl rfl rfl rfl ?_)
    exact J_retv rfl (.tmp rfl .nil) [] (fun w s => s.drop) (PH.ler _) ⟨rfl, rfl⟩
  · by_cases h2 : 7 < n
    · rw [decide_eq_true (.inr h2)]
      repeat (first|refine zJ rfl rfl ?_|refine jr rfl ?_|refine jn ?_|refine zM rfl rfl ?_|(refine zC rfl rfl ?_ rfl ?_;omega)|(refine zD rfl rfl ?_ rfl ?_;omega)|(refine zP rfl ?_ rfl ?_;omega)|refine zG rfl rfl rfl rfl ?_|(refine jdq rfl rfl ?_ ?_ ?_;kernel_rfl;kernel_rfl)|refine zB rfl rfl rfl (by repeat constructor) rfl ?_|refine zH .here rfl rfl rfl rfl ?_|refine zH (.there .here) rfl rfl rfl rfl ?_|refine zH (.there (.there .here)) rfl rfl rfl rfl ?_)
      exact J_retv rfl (.tmp rfl .nil) [] (fun w s => s.drop) (PH.ler _) ⟨rfl, rfl⟩
    · rw [decide_eq_false (fun h => h.elim h1 h2)]
      repeat (first|refine zJ rfl rfl ?_|refine jr rfl ?_|refine jn ?_|refine zM rfl rfl ?_|(refine zC rfl rfl ?_ rfl ?_;omega)|(refine zD rfl rfl ?_ rfl ?_;omega)|(refine zP rfl ?_ rfl ?_;omega)|refine zG rfl rfl rfl rfl ?_|(refine jdq rfl rfl ?_ ?_ ?_;kernel_rfl;kernel_rfl)|refine zB rfl rfl rfl (by repeat constructor) rfl ?_|refine zH .here rfl rfl rfl rfl ?_|refine zH (.there .here) rfl rfl rfl rfl ?_|refine zH (.there (.there .here)) rfl rfl rfl rfl ?_)
      exact J_retv rfl (.tmp rfl .nil) [] (fun w s => s.drop) (PH.ler _) ⟨rfl, rfl⟩
theorem low_spec (m : Nat) (n : Nat) (F : PH) (hm : m < 4294967296) (hn : n ≤ 7) : Pure Try.prog 62 [.int .u32 m, .int .i64 n] F (.bool (decide (m >>> n = 0))) := by
  refine Spec.of2 Try.func62 rfl rfl fun X w0 => ?_
  repeat (first|refine zJ rfl rfl ?_|refine jr rfl ?_|refine jn ?_|refine zM rfl rfl ?_|(refine zC rfl rfl ?_ rfl ?_;omega)|(refine zD rfl rfl ?_ rfl ?_;omega)|(refine zP rfl ?_ rfl ?_;omega)|refine zG rfl rfl rfl rfl ?_|(refine jdq rfl rfl ?_ ?_ ?_;kernel_rfl;kernel_rfl)|refine zB rfl rfl rfl (by repeat constructor) rfl ?_)
  refine J_loop (ι := Nat) (fun i => i ≤ n) (fun i => n - i) (fun i => [(0, .int .u32 ((m >>> i : Nat) : Int)), (1, .int .i64 n), (5, .int .i64 i)]) (fun _ => F) (fun _ => X) 0 (Nat.zero_le _) ⟨⟨rfl, rfl, rfl, trivial⟩, fun w s => s⟩ ?_
  intro i hi
  have hle : m >>> i ≤ m := by rw [Nat.shiftRight_eq_div_pow]; exact Nat.div_le_self _ _
  by_cases hlt : i < n
  · have hs : m >>> (i + 1) = (m >>> i) / 2 := by rw [Nat.shiftRight_succ]
    generalize hq : m >>> i = q at *
    repeat (first|refine zJ rfl rfl ?_|refine jr rfl ?_|refine jn ?_|refine zM rfl rfl ?_|(refine zC rfl rfl ?_ rfl ?_;omega)|(refine zD rfl rfl ?_ rfl ?_;omega)|(refine zP rfl ?_ rfl ?_;omega)|refine zG rfl rfl rfl rfl ?_|(refine jdq rfl rfl ?_ ?_ ?_;kernel_rfl;kernel_rfl)|refine zB rfl rfl rfl (by repeat constructor) rfl ?_)
    refine J_again (i + 1) hlt (by omega) ⟨⟨?_, rfl, rfl, trivial⟩, fun w s => s⟩
    rw [hs, Int.natCast_ediv]
    rfl
  · obtain rfl : i = n := by omega
    generalize hq : m >>> i = q at *
    by_cases h0 : q = 0
    · rw [decide_eq_true h0]
      repeat (first|refine zJ rfl rfl ?_|refine jr rfl ?_|refine jn ?_|refine zM rfl rfl ?_|(refine zC rfl rfl ?_ rfl ?_;omega)|(refine zD rfl rfl ?_ rfl ?_;omega)|(refine zP rfl ?_ rfl ?_;omega)|refine zG rfl rfl rfl rfl ?_|(refine jdq rfl rfl ?_ ?_ ?_;kernel_rfl;kernel_rfl)|refine zB rfl rfl rfl (by repeat constructor) rfl ?_)
      exact J_retv rfl (.tmp rfl .nil) [] (fun w s => s) (PH.ler _) ⟨rfl, rfl⟩
    · rw [decide_eq_false h0]
      repeat (first|refine zJ rfl rfl ?_|refine jr rfl ?_|refine jn ?_|refine zM rfl rfl ?_|(refine zC rfl rfl ?_ rfl ?_;omega)|(refine zD rfl rfl ?_ rfl ?_;omega)|(refine zP rfl ?_ rfl ?_;omega)|refine zG rfl rfl rfl rfl ?_|(refine jdq rfl rfl ?_ ?_ ?_;kernel_rfl;kernel_rfl)|refine zB rfl rfl rfl (by repeat constructor) rfl ?_)
      exact J_retv rfl (.tmp rfl .nil) [] (fun w s => s) (PH.ler _) ⟨rfl, rfl⟩
end Go.Proofs.Ytaggonhgafggkaa
