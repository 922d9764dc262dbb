/-
  What replicas say: its cells and its bytes, the program's and the document's. Conditions are typed with each.
-/
import Derived.Test.YtaggonhgafggkaaRk
namespace Go.Proofs.Ytaggonhgafggkaa
open Go.RowKit
set_option maxRecDepth 100000
/-- A vote: view, number, digest. -/
structure Vt where
  view : Int
  seq : Int
  dig : List UInt8
def Vt.cells (x : Vt) : List Value := .int .i64 x.view :: .int .i64 x.seq :: u8s x.dig
def zDig : List UInt8 := List.replicate 32 0
def Vt.zero : Vt := ⟨0, 0, zDig⟩
/-- A vouching: client, stamp, digest, mask. -/
structure Vo where
  client : Int
  stamp : Int
  dig : List UInt8
  mask : Nat
def Vo.cells (x : Vo) : List Value := .int .i64 x.client :: .int .i64 x.stamp :: (u8s x.dig ++ [Value.int .u32 x.mask])
def Vo.zero : Vo := ⟨0, 0, zDig, 0⟩
/-- A reply: view, client, stamp, result. -/
structure Rp where
  view : Int
  client : Int
  stamp : Int
  result : Int
def Rp.cells (x : Rp) : List Value := [.int .i64 x.view, .int .i64 x.client, .int .i64 x.stamp, .int .i64 x.result]
def Rp.zero : Rp := ⟨0, 0, 0, 0⟩
theorem Vt.len {x : Vt} (h : x.dig.length = 32) : x.cells.length = 34 := by unfold Vt.cells; simp [u8s, h]
theorem Vo.len {x : Vo} (h : x.dig.length = 32) : x.cells.length = 35 := by unfold Vo.cells; simp [u8s, h]
theorem Rp.len (x : Rp) : x.cells.length = 4 := rfl
theorem Vt.ones (x : Vt) : Ones x.cells := ones_cons rfl (ones_cons rfl (u8s_ones _))
theorem Vo.ones (x : Vo) : Ones x.cells := ones_cons rfl (ones_cons rfl (ones_append (u8s_ones _) (ones_cons rfl ones_nil)))
theorem Rp.ones (x : Rp) : Ones x.cells := by unfold Rp.cells; (repeat (first | exact ones_nil | refine ones_cons rfl ?_))
theorem Vt.dig_at (x : Vt) : (x.cells.drop 2).take (u8s x.dig).length = u8s x.dig := by show (u8s x.dig).take (u8s x.dig).length = _; rw [List.take_length]
theorem Vo.dig_at (x : Vo) : (x.cells.drop 2).take (u8s x.dig).length = u8s x.dig := by show (u8s x.dig ++ [Value.int .u32 x.mask]).take (u8s x.dig).length = _; rw [List.take_left]
theorem Vo.mask_at {x : Vo} (h : x.dig.length = 32) : (x.cells.drop 34).take 1 = [Value.int .u32 x.mask] := by
  show ((u8s x.dig ++ [Value.int .u32 x.mask]).drop 32).take 1 = _
  rw [show 32 = (u8s x.dig).length from by rw [u8s_len, h], List.drop_left]
  rfl
def Vt.bytes (x : Vt) : List UInt8 := putB (uN x.view) 8 ++ putB (uN x.seq) 8 ++ x.dig
def Vo.bytes (x : Vo) : List UInt8 := putB (uN x.client) 1 ++ putB (uN x.stamp) 8 ++ x.dig ++ putB x.mask 1
def Rp.bytes (x : Rp) : List UInt8 := putB (uN x.view) 8 ++ putB (uN x.client) 1 ++ putB (uN x.stamp) 8 ++ putB (uN x.result) 1
def i64s (xs : List Int) : List Value := xs.map fun x => Value.int .i64 x
def longB (xs : List Int) : List UInt8 := xs.flatMap fun x => putB (uN x) 8
theorem i64_at {F : PH} {a : Option Addr} {n c i : Nat} {xs : List Int} {x : Int} (h : SliceV F 1 (.slice a n c) n (i64s xs)) (hi : xs[i]? = some x) : ∃ b off, a = some ⟨b, off, none⟩ ∧ Cells F b (off + i * 1) [.int .i64 x] ∧ i < n := by
  obtain ⟨hl, a', c', e, _, h2⟩ := h
  cases e
  have hlt := (List.getElem?_eq_some_iff.1 hi).1
  have hn : xs.length = n := by simpa [i64s] using hl
  obtain ⟨b, off, rfl, hc⟩ := h2 (by omega)
  refine ⟨b, off, rfl, ?_, by omega⟩
  rw [Nat.mul_one]
  exact hc.one i (by unfold i64s; rw [List.getElem?_map, hi]; rfl)
set_option maxHeartbeats 8000000 in
theorem long_spec (v vs : Value) (xs : List Int) (bs : List UInt8) (F : PH) (h : Byt F v bs) (h2 : SliceV F 1 vs xs.length (i64s xs)) (hx : 0 < xs.length) (hxl : xs.length ≤ 1024) (hl : bs.length ≤ 1048576) :
    Spec Try.prog 43 [v, vs] F [] fun u F' H' => H' = [bytes u (bs ++ longB xs)] := by
  obtain ⟨hl2, sa, cs, rfl, hn, hcc⟩ := h2
  have h2 : SliceV F 1 (.slice sa xs.length cs) xs.length (i64s xs) := ⟨hl2, sa, cs, rfl, hn, hcc⟩
  clear hcc hl2
  refine Spec.of2 Try.func43 rfl rfl fun X w0 => ?_
  repeat (first|refine zJ rfl rfl ?_|refine jr rfl ?_|refine jn ?_|refine zM rfl rfl ?_|(refine zC rfl rfl ?_ rfl ?_;omega)|(refine zD rfl rfl ?_ rfl ?_;omega)|(refine zP rfl ?_ rfl ?_;omega)|refine zG rfl rfl rfl rfl ?_|(refine jdq rfl rfl ?_ ?_ ?_;kernel_rfl;kernel_rfl)|refine zB rfl rfl rfl (by repeat constructor) rfl ?_|refine zH .here rfl rfl rfl rfl ?_|refine zH (.there .here) rfl rfl rfl rfl ?_|refine zH (.there (.there .here)) rfl rfl rfl rfl ?_)
  refine J_loop (ι := Nat × Value × PH) (fun i => i.1 ≤ xs.length ∧ F.le i.2.2 ∧ (i.1 = 0 → Byt i.2.2 i.2.1 bs)) (fun i => xs.length - i.1) (fun i => [(0, i.2.1), (7, .slice sa xs.length cs), (8, .int .i64 xs.length), (9, .int .i64 i.1)]) (fun i => i.2.2)
    (fun i => (match i.1 with | 0 => [] | _ + 1 => [bytes i.2.1 (bs ++ longB (xs.take i.1))]) ++ X) (0, v, F) ⟨Nat.zero_le _, PH.ler _, fun _ => h⟩ ⟨⟨rfl, rfl, rfl, rfl, trivial⟩, fun w s => s⟩ ?_
  rintro ⟨i, u, G⟩ ⟨hi, hG, hu⟩
  dsimp only at hi hG hu
  by_cases hil : i < xs.length
  · have hg : xs[i]? = some xs[i] := List.getElem?_eq_getElem hil
    have hsn : longB (xs.take (i + 1)) = longB (xs.take i) ++ putB (uN xs[i]) 8 := flatMap_snoc hg
    obtain ⟨b, off, rfl, hcc, _⟩ := i64_at (h2.mono hG) hg
    have hll : (longB (xs.take i)).length ≤ 1024 * 8 := by
      have := flatMap_len (f := fun x => putB (uN x) 8) (k := 8) (l := xs.take i) fun x _ => by rw [pl8]; exact Nat.le_refl _
      have h3 : (xs.take i).length * 8 ≤ 1024 * 8 := Nat.mul_le_mul_right _ (by rw [List.length_take]; omega)
      exact Nat.le_trans this h3
    generalize xs[i] = x at *
    cases i with
    | zero =>
      obtain ⟨a, c, rfl, hc⟩ := (hu rfl).form
      repeat (first|refine zJ rfl rfl ?_|refine jr rfl ?_|refine jn ?_|refine zM rfl rfl ?_|(refine zC rfl rfl ?_ rfl ?_;omega)|(refine zD rfl rfl ?_ rfl ?_;omega)|(refine zP rfl ?_ rfl ?_;omega)|refine zG rfl rfl rfl rfl ?_|(refine jdq rfl rfl ?_ ?_ ?_;kernel_rfl;kernel_rfl)|refine zB rfl rfl rfl (by repeat constructor) rfl ?_|refine zH .here rfl rfl rfl rfl ?_|refine zH (.there .here) rfl rfl rfl rfl ?_|refine zH (.there (.there .here)) rfl rfl rfl rfl ?_)
      refine oS (ev_indexAddr (i := 0) rfl rfl rfl hil) rfl ?_
      refine oS (ev_load rfl rfl (Rdb.ofF hcc)) rfl ?_
      repeat (first|refine zJ rfl rfl ?_|refine jr rfl ?_|refine jn ?_|refine zM rfl rfl ?_|(refine zC rfl rfl ?_ rfl ?_;omega)|(refine zD rfl rfl ?_ rfl ?_;omega)|(refine zP rfl ?_ rfl ?_;omega)|refine zG rfl rfl rfl rfl ?_|(refine jdq rfl rfl ?_ ?_ ?_;kernel_rfl;kernel_rfl)|refine zB rfl rfl rfl (by repeat constructor) rfl ?_|refine zH .here rfl rfl rfl rfl ?_|refine zH (.there .here) rfl rfl rfl rfl ?_|refine zH (.there (.there .here)) rfl rfl rfl rfl ?_)
      refine oS (ev_conv rfl rfl rfl (uN_wrap _)) rfl ?_
      refine oC (Hc := []) (Hr := X) (put_spec a c (uN x) 8 bs G (hu rfl) hc (uN_lt _) (by omega)) Try.call44 rfl rfl (fun _ s => s) ?_
      rintro u1 _ _ _ ⟨rfl, rfl⟩
      repeat (first|refine zJ rfl rfl ?_|refine jr rfl ?_|refine jn ?_|refine zM rfl rfl ?_|(refine zC rfl rfl ?_ rfl ?_;omega)|(refine zD rfl rfl ?_ rfl ?_;omega)|(refine zP rfl ?_ rfl ?_;omega)|refine zG rfl rfl rfl rfl ?_|(refine jdq rfl rfl ?_ ?_ ?_;kernel_rfl;kernel_rfl)|refine zB rfl rfl rfl (by repeat constructor) rfl ?_|refine zH .here rfl rfl rfl rfl ?_|refine zH (.there .here) rfl rfl rfl rfl ?_|refine zH (.there (.there .here)) rfl rfl rfl rfl ?_)
      refine J_again (1, u1, G) ⟨hil, hG, fun h => by cases h⟩ (by dsimp only; omega) ⟨⟨rfl, rfl, rfl, rfl, trivial⟩, fun w s => ?_⟩
      dsimp only
      rw [hsn]
      exact s
    | succ k =>
      repeat (first|refine zJ rfl rfl ?_|refine jr rfl ?_|refine jn ?_|refine zM rfl rfl ?_|(refine zC rfl rfl ?_ rfl ?_;omega)|(refine zD rfl rfl ?_ rfl ?_;omega)|(refine zP rfl ?_ rfl ?_;omega)|refine zG rfl rfl rfl rfl ?_|(refine jdq rfl rfl ?_ ?_ ?_;kernel_rfl;kernel_rfl)|refine zB rfl rfl rfl (by repeat constructor) rfl ?_|refine zH .here rfl rfl rfl rfl ?_|refine zH (.there .here) rfl rfl rfl rfl ?_|refine zH (.there (.there .here)) rfl rfl rfl rfl ?_)
      refine oS (ev_indexAddr (i := k + 1) rfl rfl rfl hil) rfl ?_
      refine oS (ev_load rfl rfl (Rdb.ofF hcc)) rfl ?_
      repeat (first|refine zJ rfl rfl ?_|refine jr rfl ?_|refine jn ?_|refine zM rfl rfl ?_|(refine zC rfl rfl ?_ rfl ?_;omega)|(refine zD rfl rfl ?_ rfl ?_;omega)|(refine zP rfl ?_ rfl ?_;omega)|refine zG rfl rfl rfl rfl ?_|(refine jdq rfl rfl ?_ ?_ ?_;kernel_rfl;kernel_rfl)|refine zB rfl rfl rfl (by repeat constructor) rfl ?_|refine zH .here rfl rfl rfl rfl ?_|refine zH (.there .here) rfl rfl rfl rfl ?_|refine zH (.there (.there .here)) rfl rfl rfl rfl ?_)
      refine oS (ev_conv rfl rfl rfl (uN_wrap _)) rfl ?_
      refine oPersist fun h1 hA1 hd1 => ?_
      have hbv := bytes_byt hA1 hd1
      dsimp only at hbv
      have hle := PH.le_l G h1
      generalize hG1 : PH.un (k + 1, u, G).2.2 h1 = G1 at *
      replace hle : G.le G1 := by rw [← hG1]; exact PH.le_l _ _
      obtain ⟨av, cv, rfl, hcv⟩ := hbv.form
      refine oC (Hc := []) (Hr := X) (put_spec av cv (uN x) 8 _ G1 hbv hcv (uN_lt _) (by rw [List.length_append]; omega)) Try.call44 rfl rfl (fun _ s => s) ?_
      rintro u1 _ _ _ ⟨rfl, rfl⟩
      repeat (first|refine zJ rfl rfl ?_|refine jr rfl ?_|refine jn ?_|refine zM rfl rfl ?_|(refine zC rfl rfl ?_ rfl ?_;omega)|(refine zD rfl rfl ?_ rfl ?_;omega)|(refine zP rfl ?_ rfl ?_;omega)|refine zG rfl rfl rfl rfl ?_|(refine jdq rfl rfl ?_ ?_ ?_;kernel_rfl;kernel_rfl)|refine zB rfl rfl rfl (by repeat constructor) rfl ?_|refine zH .here rfl rfl rfl rfl ?_|refine zH (.there .here) rfl rfl rfl rfl ?_|refine zH (.there (.there .here)) rfl rfl rfl rfl ?_)
      refine J_again (k + 2, u1, G1) ⟨hil, hG.trans hle, fun h => by cases h⟩ (by dsimp only; omega) ⟨⟨rfl, rfl, rfl, rfl, trivial⟩, fun w s => ?_⟩
      dsimp only
      rw [hsn, ← List.append_assoc]
      exact s
  · obtain rfl : i = xs.length := by omega
    obtain ⟨k, hk⟩ : ∃ k, xs.length = k + 1 := ⟨xs.length - 1, by omega⟩
    refine J_weak (H' := bytes u (bs ++ longB xs) :: X) ?_ (fun w s => by
      have e : xs.take xs.length = xs := List.take_length
      dsimp only at s
      rw [e] at s
      rw [hk] at s
      exact s)
    repeat (first|refine zJ rfl rfl ?_|refine jr rfl ?_|refine jn ?_|refine zM rfl rfl ?_|(refine zC rfl rfl ?_ rfl ?_;omega)|(refine zD rfl rfl ?_ rfl ?_;omega)|(refine zP rfl ?_ rfl ?_;omega)|refine zG rfl rfl rfl rfl ?_|(refine jdq rfl rfl ?_ ?_ ?_;kernel_rfl;kernel_rfl)|refine zB rfl rfl rfl (by repeat constructor) rfl ?_|refine zH .here rfl rfl rfl rfl ?_|refine zH (.there .here) rfl rfl rfl rfl ?_|refine zH (.there (.there .here)) rfl rfl rfl rfl ?_)
    exact J_retv rfl (.tmp rfl .nil) [bytes u (bs ++ longB xs)] (fun w s => s) hG rfl
theorem SliceV.of_blk {F h : PH} {b n : Nat} {E : TypeId} {xs : List Int} (hA : blk b E (i64s xs) h) (hd : F.dj h) (hn : xs.length = n) : SliceV (F.un h) 1 (.slice (some ⟨b, 0, none⟩) n n) n (i64s xs) :=
  ⟨by unfold i64s; rw [List.length_map]; omega, _, _, rfl, Nat.le_refl _, fun _ => ⟨b, 0, rfl, blk_cells hA hd⟩⟩
set_option maxHeartbeats 8000000 in
theorem Digest_spec (v : Value) (bs d : List UInt8) (F : PH) (h : Byt F v bs) (hd : d.length = 32) (hl : bs.length ≤ 1048576) :
    Spec Try.prog 45 [v, .agg (u8s d).toArray] F [] fun u F' H' => H' = [] ∧ Byt F' u (bs ++ d) := by
  obtain ⟨a, c, rfl, hc⟩ := h.form
  refine Spec.of2 Try.func45 rfl rfl fun X w0 => ?_
  refine jc rfl rfl ?_
  refine jr rfl ?_
  refine oE (ev_box rfl .agg) rfl ?_; rintro _ _ _ _ ⟨rfl, b, rfl, rfl⟩
  repeat (first|refine zJ rfl rfl ?_|refine jr rfl ?_|refine jn ?_|refine zM rfl rfl ?_|(refine zC rfl rfl ?_ rfl ?_;omega)|(refine zD rfl rfl ?_ rfl ?_;omega)|(refine zP rfl ?_ rfl ?_;omega)|refine zG rfl rfl rfl rfl ?_|(refine jdq rfl rfl ?_ ?_ ?_;kernel_rfl;kernel_rfl)|refine zB rfl rfl rfl (by repeat constructor) rfl ?_|refine zH .here rfl rfl rfl rfl ?_|refine zH (.there .here) rfl rfl rfl rfl ?_|refine zH (.there (.there .here)) rfl rfl rfl rfl ?_)
  refine oE eb_empty rfl ?_
  rintro u _ _ _ ⟨rfl, ⟨b1, rfl⟩, rfl⟩
  repeat (first|refine zJ rfl rfl ?_|refine jr rfl ?_|refine jn ?_|refine zM rfl rfl ?_|(refine zC rfl rfl ?_ rfl ?_;omega)|(refine zD rfl rfl ?_ rfl ?_;omega)|(refine zP rfl ?_ rfl ?_;omega)|refine zG rfl rfl rfl rfl ?_|(refine jdq rfl rfl ?_ ?_ ?_;kernel_rfl;kernel_rfl)|refine zB rfl rfl rfl (by repeat constructor) rfl ?_|refine zH .here rfl rfl rfl rfl ?_|refine zH (.there .here) rfl rfl rfl rfl ?_|refine zH (.there (.there .here)) rfl rfl rfl rfl ?_)
  refine oE (eb_append (bs := []) (cs := bs) (K := fun v' => bytes v' bs :: blk b 23 (u8s d) :: X) rfl rfl h.rds (by simp; omega) (fun v' => .here)) rfl ?_
  rintro u _ _ _ ⟨rfl, _, rfl⟩
  repeat (first|refine zJ rfl rfl ?_|refine jr rfl ?_|refine jn ?_|refine zM rfl rfl ?_|(refine zC rfl rfl ?_ rfl ?_;omega)|(refine zD rfl rfl ?_ rfl ?_;omega)|(refine zP rfl ?_ rfl ?_;omega)|refine zG rfl rfl rfl rfl ?_|(refine jdq rfl rfl ?_ ?_ ?_;kernel_rfl;kernel_rfl)|refine zB rfl rfl rfl (by repeat constructor) rfl ?_|refine zH .here rfl rfl rfl rfl ?_|refine zH (.there .here) rfl rfl rfl rfl ?_|refine zH (.there (.there .here)) rfl rfl rfl rfl ?_)
  refine oS (ev_load_agg (cs := u8s d) rfl rfl (Rdb.ofB (n := 0) (.there .here) (by rw [List.drop_zero, List.take_length])) (by rw [u8s_len]; exact hd)) rfl ?_
  repeat (first|refine zJ rfl rfl ?_|refine jr rfl ?_|refine jn ?_|refine zM rfl rfl ?_|(refine zC rfl rfl ?_ rfl ?_;omega)|(refine zD rfl rfl ?_ rfl ?_;omega)|(refine zP rfl ?_ rfl ?_;omega)|refine zG rfl rfl rfl rfl ?_|(refine jdq rfl rfl ?_ ?_ ?_;kernel_rfl;kernel_rfl)|refine zB rfl rfl rfl (by repeat constructor) rfl ?_|refine zH .here rfl rfl rfl rfl ?_|refine zH (.there .here) rfl rfl rfl rfl ?_|refine zH (.there (.there .here)) rfl rfl rfl rfl ?_)
  refine J_loop (ι := Nat × Value) (fun y => y.1 ≤ 32) (fun y => 32 - y.1) (fun y => [(5, y.2), (11, .agg (u8s d).toArray), (12, .int .i64 y.1)]) (fun _ => F) (fun y => bytes y.2 (bs ++ d.take y.1) :: blk b 23 (u8s d) :: X) (0, u) (Nat.zero_le _) ⟨⟨rfl, rfl, rfl, trivial⟩, fun w s => ?_⟩ ?_
  · dsimp only
    rw [List.take_zero, List.append_nil]
    exact s
  rintro ⟨y, u6⟩ hy
  dsimp only at hy
  by_cases hyl : y < 32
  · have hgy : d[y]? = some (d[y]'(by omega)) := List.getElem?_eq_getElem _
    have hty := take_snoc hgy
    generalize d[y]'(by omega) = x at *
    repeat (first|refine zJ rfl rfl ?_|refine jr rfl ?_|refine jn ?_|refine zM rfl rfl ?_|(refine zC rfl rfl ?_ rfl ?_;omega)|(refine zD rfl rfl ?_ rfl ?_;omega)|(refine zP rfl ?_ rfl ?_;omega)|refine zG rfl rfl rfl rfl ?_|(refine jdq rfl rfl ?_ ?_ ?_;kernel_rfl;kernel_rfl)|refine zB rfl rfl rfl (by repeat constructor) rfl ?_|refine zH .here rfl rfl rfl rfl ?_|refine zH (.there .here) rfl rfl rfl rfl ?_|refine zH (.there (.there .here)) rfl rfl rfl rfl ?_)
    refine oS (ev_index_arr (xs := d) (i := y) (c := x) rfl rfl rfl rfl hd hgy) rfl ?_
    repeat (first|refine zJ rfl rfl ?_|refine jr rfl ?_|refine jn ?_|refine zM rfl rfl ?_|(refine zC rfl rfl ?_ rfl ?_;omega)|(refine zD rfl rfl ?_ rfl ?_;omega)|(refine zP rfl ?_ rfl ?_;omega)|refine zG rfl rfl rfl rfl ?_|(refine jdq rfl rfl ?_ ?_ ?_;kernel_rfl;kernel_rfl)|refine zB rfl rfl rfl (by repeat constructor) rfl ?_|refine zH .here rfl rfl rfl rfl ?_|refine zH (.there .here) rfl rfl rfl rfl ?_|refine zH (.there (.there .here)) rfl rfl rfl rfl ?_)
    refine ob_push (bs := bs ++ d.take y) (b := x) (K := fun v' => bytes v' (bs ++ d.take y ++ [x]) :: blk b 23 (u8s d) :: X) rfl (fun _ => rfl) rfl (by rw [List.length_append, List.length_take]; omega) (fun v' => .here) rfl (fun _ => rfl) ?_
    intro u' w'
    repeat (first|refine zJ rfl rfl ?_|refine jr rfl ?_|refine jn ?_|refine zM rfl rfl ?_|(refine zC rfl rfl ?_ rfl ?_;omega)|(refine zD rfl rfl ?_ rfl ?_;omega)|(refine zP rfl ?_ rfl ?_;omega)|refine zG rfl rfl rfl rfl ?_|(refine jdq rfl rfl ?_ ?_ ?_;kernel_rfl;kernel_rfl)|refine zB rfl rfl rfl (by repeat constructor) rfl ?_|refine zH .here rfl rfl rfl rfl ?_|refine zH (.there .here) rfl rfl rfl rfl ?_|refine zH (.there (.there .here)) rfl rfl rfl rfl ?_)
    refine J_again (y + 1, u') hyl (by dsimp only; omega) ⟨⟨rfl, rfl, rfl, trivial⟩, fun w s => ?_⟩
    dsimp only
    rw [hty, ← List.append_assoc]
    exact s
  · obtain rfl : y = 32 := by omega
    have ht32 : d.take 32 = d := List.take_of_length_le (by omega)
    dsimp only
    rw [ht32]
    repeat (first|refine zJ rfl rfl ?_|refine jr rfl ?_|refine jn ?_|refine zM rfl rfl ?_|(refine zC rfl rfl ?_ rfl ?_;omega)|(refine zD rfl rfl ?_ rfl ?_;omega)|(refine zP rfl ?_ rfl ?_;omega)|refine zG rfl rfl rfl rfl ?_|(refine jdq rfl rfl ?_ ?_ ?_;kernel_rfl;kernel_rfl)|refine zB rfl rfl rfl (by repeat constructor) rfl ?_|refine zH .here rfl rfl rfl rfl ?_|refine zH (.there .here) rfl rfl rfl rfl ?_|refine zH (.there (.there .here)) rfl rfl rfl rfl ?_)
    refine J_persist fun h1 hA1 hd1 => ?_
    exact J_retv rfl (.tmp rfl .nil) [] (fun w s => s.drop) (PH.le_l _ _) ⟨rfl, bytes_byt hA1 hd1⟩
end Go.Proofs.Ytaggonhgafggkaa
