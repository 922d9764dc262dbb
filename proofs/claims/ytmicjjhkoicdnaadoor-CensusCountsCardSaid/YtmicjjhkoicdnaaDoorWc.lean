/-
  A message's bytes, the document's. Conditions are typed with each.
-/
import Derived.Test.YtmicjjhkoicdnaaDoorWb
namespace Go.Proofs.YtmicjjhkoicdnaaDoor
open Go.RowKit
set_option maxRecDepth 100000
set_option maxHeartbeats 8000000 in
theorem Bytes_spec (k f : Int) (vb vt : Value) (bs : List UInt8) (ts : List (List UInt8)) (ku fu : Nat) (F : PH) (hb : Byt F vb bs) (ht : Tags F vt ts) (hl : bs.length ≤ 549755813888) (hlt : ts.length ≤ 1048576)
    (hk : IntKind.u64.wrap k = (ku : Int)) (hf : IntKind.u64.wrap f = (fu : Int)) (hk64 : ku < 2 ^ 64) (hf64 : fu < 2 ^ 64) :
    Spec Tryd.prog 25 [.agg (msgC k f vb vt).toArray] F [] fun u F' H' => H' = [bytes u (wireB ku fu bs ts)] := by
  obtain ⟨a, c, rfl, hc⟩ := hb.form
  obtain ⟨a2, c2, rfl, hc2⟩ := ht.form
  refine Spec.of1 Tryd.func25 rfl rfl fun X w0 => ?_
  refine jc rfl rfl ?_
  refine jr rfl ?_
  refine oE (ev_box rfl .agg) rfl ?_; rintro _ _ _ _ ⟨rfl, b, rfl, rfl⟩
  refine oPersist fun h1 hA1 hd1 => ?_
  have hm := blk_cells hA1 hd1
  have hle1 : F.le (F.un h1) := PH.le_l _ _
  generalize F.un h1 = F1 at *
  have k0 : Cells F1 b 0 [.int .i64 k] := hm.left (ys := [.int .i64 f, .slice a bs.length c, .slice a2 ts.length c2])
  have m1 : Cells F1 b (0 + 1) [.int .i64 f, .slice a bs.length c, .slice a2 ts.length c2] := hm.right (xs := [.int .i64 k])
  have k1 : Cells F1 b (0 + 1) [.int .i64 f] := m1.left (ys := [.slice a bs.length c, .slice a2 ts.length c2])
  have m2 : Cells F1 b (0 + 1 + 1) [.slice a bs.length c, .slice a2 ts.length c2] := m1.right (xs := [.int .i64 f])
  have k2 : Cells F1 b (0 + 2) [.slice a bs.length c] := m2.left (ys := [.slice a2 ts.length c2])
  have k3 : Cells F1 b (0 + 3) [.slice a2 ts.length c2] := m2.right (xs := [.slice a bs.length c])
  have hb1 := hb.mono hle1
  have ht1 := ht.mono hle1
  repeat (first|refine zJ rfl rfl ?_|refine jr rfl ?_|refine jn ?_|refine zM rfl rfl ?_|(refine zC rfl rfl ?_ rfl ?_;omega)|(refine zD rfl rfl ?_ rfl ?_;omega)|(refine zP rfl ?_ rfl ?_;omega)|refine zG rfl rfl rfl rfl ?_|(refine jdq rfl rfl ?_ ?_ ?_;kernel_rfl;kernel_rfl)|refine zB rfl rfl rfl (by repeat constructor) rfl ?_|refine zH .here rfl rfl rfl rfl ?_|refine zH (.there .here) rfl rfl rfl rfl ?_|refine zH (.there (.there .here)) rfl rfl rfl rfl ?_)
  refine ja F1 [] ?_ ?_ ?_; kernel_rfl
  · exact fun w s => s.bare
  refine aT 0 rfl (ev_fieldAddr rfl rfl) rfl rfl ?_ ?_ ?_ ?_; kernel_rfl; kernel_rfl; kernel_rfl
  refine aT 1 rfl (ev_load rfl rfl (Rdb.ofF k0)) rfl rfl ?_ ?_ ?_ ?_; kernel_rfl; kernel_rfl; kernel_rfl
  refine aT 2 rfl (ev_conv rfl rfl rfl hk) rfl rfl ?_ ?_ ?_ ?_; kernel_rfl; kernel_rfl; kernel_rfl
  refine aT 4 rfl (ev_fieldAddr rfl rfl) rfl rfl ?_ ?_ ?_ ?_; kernel_rfl; kernel_rfl; kernel_rfl
  refine aT 5 rfl (ev_load rfl rfl (Rdb.ofF k1)) rfl rfl ?_ ?_ ?_ ?_; kernel_rfl; kernel_rfl; kernel_rfl
  refine aT 6 rfl (ev_conv rfl rfl rfl hf) rfl rfl ?_ ?_ ?_ ?_; kernel_rfl; kernel_rfl; kernel_rfl
  refine aT 8 rfl (ev_fieldAddr rfl rfl) rfl rfl ?_ ?_ ?_ ?_; kernel_rfl; kernel_rfl; kernel_rfl
  refine aT 9 rfl (ev_load rfl rfl (Rdb.ofF k2)) rfl rfl ?_ ?_ ?_ ?_; kernel_rfl; kernel_rfl; kernel_rfl
  refine aB (i := 3) (by kernel_rfl) (aC (Hc := []) (Hr := X) rfl (Put_spec none 0 ku 1 [] F1 (Byt.nil F1) hk64 (by decide)) Tryd.call36 rfl rfl rfl (fun _ s => s) (fun _ _ _ hF _ w s => (s.mono hF).bare) ?_)
  rintro u1 _ _ _ ⟨rfl, rfl⟩
  refine aPersist fun h2 hA2 hd2 => ?_
  have hp1 := bytes_byt hA2 hd2
  have hle2 : F1.le (F1.un h2) := PH.le_l _ _
  refine aF hle2 ?_
  generalize F1.un h2 = F2 at *
  rw [List.nil_append] at hp1
  obtain ⟨a3, c3, rfl, hc3⟩ := hp1.form
  refine aB (i := 7) (by kernel_rfl) (aC (Hc := []) (Hr := X) rfl (Put_spec a3 c3 fu 1 (putB ku 1) F2 hp1 hf64 (by rw [put1_len]; omega)) Tryd.call36 rfl rfl rfl (fun _ s => s) (fun _ _ _ hF _ w s => (s.mono hF).bare) ?_)
  rintro u2 _ _ _ ⟨rfl, rfl⟩
  refine aPersist fun h3 hA3 hd3 => ?_
  have hp2 := bytes_byt hA3 hd3
  have hle3 : F2.le (F2.un h3) := PH.le_l _ _
  refine aF hle3 ?_
  generalize F2.un h3 = F3 at *
  obtain ⟨a4, c4, rfl, hc4⟩ := hp2.form
  have hp2l : (putB ku 1 ++ putB fu 1).length = 2 := by rw [List.length_append, put1_len, put1_len]
  have hle13 := hle2.trans hle3
  have hb3 := hb1.mono hle13
  have ht3 := ht1.mono hle13
  refine aB (i := 10) (by kernel_rfl) (aC (Hc := []) (Hr := X) rfl (Row_spec a4 a c4 c _ bs F3 hp2 hb3 (by rw [hp2l]; omega) (by omega)) Tryd.call35 rfl rfl rfl (fun _ s => s) (fun _ _ _ hF _ w s => (s.mono hF).bare) ?_)
  rintro u3 _ _ _ ⟨rfl, rfl⟩
  refine aPersist fun h4 hA4 hd4 => ?_
  have hp3 := bytes_byt hA4 hd4
  have hle4 : F3.le (F3.un h4) := PH.le_l _ _
  refine aF hle4 ?_
  generalize F3.un h4 = F4 at *
  obtain ⟨a5, c5, rfl, hc5⟩ := hp3.form
  have hp3l : (putB ku 1 ++ putB fu 1 ++ putB bs.length 4 ++ bs).length = 6 + bs.length := by rw [List.length_append, List.length_append, hp2l, put4_len]
  refine aT 11 rfl (ev_pv rfl) rfl rfl ?_ ?_ ?_ ?_; kernel_rfl; kernel_rfl; kernel_rfl
  refine aD (by kernel_rfl) ?_
  have ht4 := ht3.mono hle4
  repeat (first|refine zJ rfl rfl ?_|refine jr rfl ?_|refine jn ?_|refine zM rfl rfl ?_|(refine zC rfl rfl ?_ rfl ?_;omega)|(refine zD rfl rfl ?_ rfl ?_;omega)|(refine zP rfl ?_ rfl ?_;omega)|refine zG rfl rfl rfl rfl ?_|(refine jdq rfl rfl ?_ ?_ ?_;kernel_rfl;kernel_rfl)|refine zB rfl rfl rfl (by repeat constructor) rfl ?_|refine zH .here rfl rfl rfl rfl ?_|refine zH (.there .here) rfl rfl rfl rfl ?_|refine zH (.there (.there .here)) rfl rfl rfl rfl ?_)
  refine oS (ev_load rfl rfl (Rdb.ofF (k3.mono (hle13.trans hle4)))) rfl ?_
  repeat (first|refine zJ rfl rfl ?_|refine jr rfl ?_|refine jn ?_|refine zM rfl rfl ?_|(refine zC rfl rfl ?_ rfl ?_;omega)|(refine zD rfl rfl ?_ rfl ?_;omega)|(refine zP rfl ?_ rfl ?_;omega)|refine zG rfl rfl rfl rfl ?_|(refine jdq rfl rfl ?_ ?_ ?_;kernel_rfl;kernel_rfl)|refine zB rfl rfl rfl (by repeat constructor) rfl ?_|refine zH .here rfl rfl rfl rfl ?_|refine zH (.there .here) rfl rfl rfl rfl ?_|refine zH (.there (.there .here)) rfl rfl rfl rfl ?_)
  refine oC (Hc := []) (Hr := X) (Put_spec a5 c5 ts.length 2 _ F4 hp3 (by omega) (by rw [hp3l]; omega)) Tryd.call36 rfl rfl (fun _ s => s) ?_
  rintro u4 _ _ _ ⟨rfl, rfl⟩
  refine oM rfl rfl ?_
  refine jn ?_
  have hpl : (wireP ku fu bs ts.length).length = 8 + bs.length := by unfold wireP; rw [List.length_append, hp3l, put2_len]; omega
  have hleF := hle1.trans (hle13.trans hle4)
  show J _ _ _ _ (bytes u4 (wireP ku fu bs ts.length) :: X)
  repeat (first|refine zJ rfl rfl ?_|refine jr rfl ?_|refine jn ?_|refine zM rfl rfl ?_|(refine zC rfl rfl ?_ rfl ?_;omega)|(refine zD rfl rfl ?_ rfl ?_;omega)|(refine zP rfl ?_ rfl ?_;omega)|refine zG rfl rfl rfl rfl ?_|(refine jdq rfl rfl ?_ ?_ ?_;kernel_rfl;kernel_rfl)|refine zB rfl rfl rfl (by repeat constructor) rfl ?_|refine zH .here rfl rfl rfl rfl ?_|refine zH (.there .here) rfl rfl rfl rfl ?_|refine zH (.there (.there .here)) rfl rfl rfl rfl ?_)
  refine oS (ev_load rfl rfl (Rdb.ofF (k3.mono (hle13.trans hle4)))) rfl ?_
  repeat (first|refine zJ rfl rfl ?_|refine jr rfl ?_|refine jn ?_|refine zM rfl rfl ?_|(refine zC rfl rfl ?_ rfl ?_;omega)|(refine zD rfl rfl ?_ rfl ?_;omega)|(refine zP rfl ?_ rfl ?_;omega)|refine zG rfl rfl rfl rfl ?_|(refine jdq rfl rfl ?_ ?_ ?_;kernel_rfl;kernel_rfl)|refine zB rfl rfl rfl (by repeat constructor) rfl ?_|refine zH .here rfl rfl rfl rfl ?_|refine zH (.there .here) rfl rfl rfl rfl ?_|refine zH (.there (.there .here)) rfl rfl rfl rfl ?_)
  refine J_loop2 (fun (j : Nat) (_ : Value) => j ≤ ts.length) (fun j _ => ts.length - j) (fun j u => [(3, u), (26, .slice a2 ts.length c2), (27, .int .i64 ts.length), (28, .int .i64 j)]) (fun _ _ => F4)
    (fun j u => bytes u (wireP ku fu bs ts.length ++ (ts.take j).flatten) :: X) 0 u4 (Nat.zero_le _) ⟨⟨rfl, rfl, rfl, rfl, trivial⟩, fun _ h => by simpa using h⟩ ?_
  intro j u hj
  by_cases hlj : j < ts.length
  · obtain ⟨t, htj, htm⟩ : ∃ t, ts[j]? = some t ∧ t ∈ ts := ⟨ts[j], List.getElem?_eq_getElem hlj, List.getElem_mem hlj⟩
    have ht32 := ht4.2 t htm
    obtain ⟨b1, off1, rfl, hcc⟩ := ht4.1.row (fun c hc => by obtain ⟨t, htm, rfl⟩ := List.mem_map.1 hc; rw [u8s_len]; exact ht4.2 t htm) (i := j) (r := u8s t) (by rw [List.getElem?_map, htj]; rfl) hlj
    have hfl : (ts.take j).flatten.length ≤ 33554432 := by
      rw [flatten_len fun t ht => ht4.2 t (List.mem_of_mem_take ht), List.length_take]; omega
    repeat (first|refine zJ rfl rfl ?_|refine jr rfl ?_|refine jn ?_|refine zM rfl rfl ?_|(refine zC rfl rfl ?_ rfl ?_;omega)|(refine zD rfl rfl ?_ rfl ?_;omega)|(refine zP rfl ?_ rfl ?_;omega)|refine zG rfl rfl rfl rfl ?_|(refine jdq rfl rfl ?_ ?_ ?_;kernel_rfl;kernel_rfl)|refine zB rfl rfl rfl (by repeat constructor) rfl ?_|refine zH .here rfl rfl rfl rfl ?_|refine zH (.there .here) rfl rfl rfl rfl ?_|refine zH (.there (.there .here)) rfl rfl rfl rfl ?_)
    refine oS (ev_indexAddr rfl rfl rfl hlj) rfl ?_
    refine oS (ev_load_agg rfl rfl (Rdb.ofF hcc) (by rw [u8s_len]; exact ht32)) rfl ?_
    refine oE (ev_alloc rfl) rfl ?_
    rintro _ _ _ _ ⟨rfl, bt, rfl, rfl⟩
    refine oN (ev_store rfl rfl .agg rfl (by rw [u8s_len]; exact ht32) (lay_all (by rw [u8s_len]; exact ht32)) (u8s_ones t) .here) rfl ?_
    rintro _ _ _ _ ⟨rfl, _, rfl⟩
    repeat (first|refine zJ rfl rfl ?_|refine jr rfl ?_|refine jn ?_|refine zM rfl rfl ?_|(refine zC rfl rfl ?_ rfl ?_;omega)|(refine zD rfl rfl ?_ rfl ?_;omega)|(refine zP rfl ?_ rfl ?_;omega)|refine zG rfl rfl rfl rfl ?_|(refine jdq rfl rfl ?_ ?_ ?_;kernel_rfl;kernel_rfl)|refine zB rfl rfl rfl (by repeat constructor) rfl ?_|refine zH .here rfl rfl rfl rfl ?_|refine zH (.there .here) rfl rfl rfl rfl ?_|refine zH (.there (.there .here)) rfl rfl rfl rfl ?_)
    refine oS (ev_load_agg (cs := u8s t) rfl rfl (Rdb.ofB (n := 0) .here (by rw [List.drop_zero]; exact List.take_length)) (by rw [u8s_len]; exact ht32)) rfl ?_
    repeat (first|refine zJ rfl rfl ?_|refine jr rfl ?_|refine jn ?_|refine zM rfl rfl ?_|(refine zC rfl rfl ?_ rfl ?_;omega)|(refine zD rfl rfl ?_ rfl ?_;omega)|(refine zP rfl ?_ rfl ?_;omega)|refine zG rfl rfl rfl rfl ?_|(refine jdq rfl rfl ?_ ?_ ?_;kernel_rfl;kernel_rfl)|refine zB rfl rfl rfl (by repeat constructor) rfl ?_|refine zH .here rfl rfl rfl rfl ?_|refine zH (.there .here) rfl rfl rfl rfl ?_|refine zH (.there (.there .here)) rfl rfl rfl rfl ?_)
    refine J_loop2 (fun (i : Nat) (_ : Value) => i ≤ 32) (fun i _ => 32 - i) (fun i u => [(3, u), (26, .slice (some ⟨b1, off1, none⟩) ts.length c2), (27, .int .i64 ts.length), (28, .int .i64 j), (32, .agg (u8s t).toArray), (33, .int .i64 i)]) (fun _ _ => F4)
      (fun i u => bytes u (wireP ku fu bs ts.length ++ (ts.take j).flatten ++ t.take i) :: X) 0 u (Nat.zero_le _) ⟨⟨rfl, rfl, rfl, rfl, rfl, rfl, trivial⟩, fun _ h => by simpa using h.drop⟩ ?_
    intro i u hi
    by_cases hli : i < 32
    · have hg : t[i]? = some (t[i]'(by omega)) := List.getElem?_eq_getElem _
      repeat (first|refine zJ rfl rfl ?_|refine jr rfl ?_|refine jn ?_|refine zM rfl rfl ?_|(refine zC rfl rfl ?_ rfl ?_;omega)|(refine zD rfl rfl ?_ rfl ?_;omega)|(refine zP rfl ?_ rfl ?_;omega)|refine zG rfl rfl rfl rfl ?_|(refine jdq rfl rfl ?_ ?_ ?_;kernel_rfl;kernel_rfl)|refine zB rfl rfl rfl (by repeat constructor) rfl ?_|refine zH .here rfl rfl rfl rfl ?_|refine zH (.there .here) rfl rfl rfl rfl ?_|refine zH (.there (.there .here)) rfl rfl rfl rfl ?_)
      refine oS (ev_index_arr rfl rfl rfl rfl ht32 hg) rfl ?_
      repeat (first|refine zJ rfl rfl ?_|refine jr rfl ?_|refine jn ?_|refine zM rfl rfl ?_|(refine zC rfl rfl ?_ rfl ?_;omega)|(refine zD rfl rfl ?_ rfl ?_;omega)|(refine zP rfl ?_ rfl ?_;omega)|refine zG rfl rfl rfl rfl ?_|(refine jdq rfl rfl ?_ ?_ ?_;kernel_rfl;kernel_rfl)|refine zB rfl rfl rfl (by repeat constructor) rfl ?_|refine zH .here rfl rfl rfl rfl ?_|refine zH (.there .here) rfl rfl rfl rfl ?_|refine zH (.there (.there .here)) rfl rfl rfl rfl ?_)
      refine ob_push (bs := wireP ku fu bs ts.length ++ (ts.take j).flatten ++ t.take i) (K := fun v' => bytes v' (wireP ku fu bs ts.length ++ (ts.take j).flatten ++ t.take i ++ [t[i]'(by omega)]) :: X) rfl (fun _ => rfl) rfl (by rw [List.length_append, List.length_append, hpl, List.length_take]; omega) (fun v' => .here) rfl (fun _ => rfl) ?_
      intro u' w'
      repeat (first|refine zJ rfl rfl ?_|refine jr rfl ?_|refine jn ?_|refine zM rfl rfl ?_|(refine zC rfl rfl ?_ rfl ?_;omega)|(refine zD rfl rfl ?_ rfl ?_;omega)|(refine zP rfl ?_ rfl ?_;omega)|refine zG rfl rfl rfl rfl ?_|(refine jdq rfl rfl ?_ ?_ ?_;kernel_rfl;kernel_rfl)|refine zB rfl rfl rfl (by repeat constructor) rfl ?_|refine zH .here rfl rfl rfl rfl ?_|refine zH (.there .here) rfl rfl rfl rfl ?_|refine zH (.there (.there .here)) rfl rfl rfl rfl ?_)
      refine J_again2 (i + 1) u' (by omega) (by omega) ⟨⟨rfl, rfl, rfl, rfl, rfl, rfl, trivial⟩, fun w s => ?_⟩
      rw [take_snoc hg, ← List.append_assoc]
      exact s
    · obtain rfl : i = 32 := by omega
      repeat (first|refine zJ rfl rfl ?_|refine jr rfl ?_|refine jn ?_|refine zM rfl rfl ?_|(refine zC rfl rfl ?_ rfl ?_;omega)|(refine zD rfl rfl ?_ rfl ?_;omega)|(refine zP rfl ?_ rfl ?_;omega)|refine zG rfl rfl rfl rfl ?_|(refine jdq rfl rfl ?_ ?_ ?_;kernel_rfl;kernel_rfl)|refine zB rfl rfl rfl (by repeat constructor) rfl ?_|refine zH .here rfl rfl rfl rfl ?_|refine zH (.there .here) rfl rfl rfl rfl ?_|refine zH (.there (.there .here)) rfl rfl rfl rfl ?_)
      refine J_again2 (j + 1) u hlj (by omega) ⟨⟨rfl, rfl, rfl, rfl, trivial⟩, fun w s => ?_⟩
      rw [take_snoc htj, List.flatten_append, ← List.append_assoc, show [t].flatten = t from by simp]
      have e : t.take 32 = t := List.take_of_length_le (by omega)
      rwa [e] at s
  · obtain rfl : j = ts.length := by omega
    rw [List.take_length]
    repeat (first|refine zJ rfl rfl ?_|refine jr rfl ?_|refine jn ?_|refine zM rfl rfl ?_|(refine zC rfl rfl ?_ rfl ?_;omega)|(refine zD rfl rfl ?_ rfl ?_;omega)|(refine zP rfl ?_ rfl ?_;omega)|refine zG rfl rfl rfl rfl ?_|(refine jdq rfl rfl ?_ ?_ ?_;kernel_rfl;kernel_rfl)|refine zB rfl rfl rfl (by repeat constructor) rfl ?_|refine zH .here rfl rfl rfl rfl ?_|refine zH (.there .here) rfl rfl rfl rfl ?_|refine zH (.there (.there .here)) rfl rfl rfl rfl ?_)
    exact J_ret1 rfl rfl [bytes u (wireB ku fu bs ts)] rfl hleF rfl
end Go.Proofs.YtmicjjhkoicdnaaDoor
