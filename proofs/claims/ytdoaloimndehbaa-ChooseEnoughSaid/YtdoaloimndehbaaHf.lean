/-
  What a new view begins with. Conditions are typed with each.
-/
import Derived.Test.YtdoaloimndehbaaHe
namespace Go.Proofs.Ytdoaloimndehbaa
open Go.RowKit
set_option maxRecDepth 100000
def farS (base n : Int) (x : PrX) : Int := if base < x.1 ∧ x.1 - base ≤ 8 then max n (x.1 - base) else n
def farR (base n : Int) (s : SgX) : Int := s.2.1.2.2.2.1.foldl (farS base) n
def farP (base : Int) (l : List SgX) : Int := l.foldl (farR base) 0
def FarOk (base n : Int) : Prop := 0 ≤ n ∧ n ≤ 8 ∧ base + n ≤ 9223372036854775807
def numsP (l : List SgX) (base : Int) (n : Nat) : List (List EntX × Bool) := (List.range n).map fun k => numberP 2 3 l (base + (k : Nat) + 1)
def chooseP (l : List SgX) : Option (PtX × List (List EntX)) := match baseP 2 3 l with
  | none => none
  | some p => if (numsP l p.1 (farP p.1 l).toNat).all (·.2) = true then some (p, (numsP l p.1 (farP p.1 l).toNat).map (·.1)) else none
def choC (s : Int) (d : List UInt8) (v : Value) : List Value := ptC s d ++ [v]
def zCho : List Value := choC 0 z32 (.slice none 0 0)
theorem choC_len {s : Int} {d : List UInt8} {v : Value} (h : d.length = 32) : (choC s d v).length = 34 := by simp [choC, ptC, u8s, h]
theorem choC_ones {s : Int} {d : List UInt8} {v : Value} (h : v.oneCell' = true) : Ones (choC s d v) := ones_append (ptC_ones _ _) (ones_cons h ones_nil)
theorem choC_last {s : Int} {d : List UInt8} {v : Value} (h : d.length = 32) : ((choC s d v).drop 33).take 1 = [v] := by
  have := List.drop_left (l₁ := ptC s d) (l₂ := [v])
  rw [show (ptC s d).length = 33 from by simp [ptC, u8s, h]] at this
  unfold choC
  rw [this]
  rfl
theorem choC_lay {s : Int} {d : List UInt8} {v v' : Value} (h : d.length = 32) : Lay 33 [v'] (choC s d v) (choC s d v') := by
  have := layP (ptC s d) (Lay.put Lay.nil : Lay 0 [v'] [v] [v'])
  rw [show (ptC s d).length = 33 from by simp [ptC, u8s, h]] at this
  exact this
theorem elBs : Elem Try.prog 61 33 1 24 (.slice none 0 0) := ⟨rfl, ⟨_, rfl, rfl, rfl, rfl, rfl, by decide⟩, rfl, rfl⟩
theorem far_step {base n : Int} (x : PrX) (hx : InK .i64 x.1) (h : FarOk base n) : FarOk base (farS base n x) := by
  unfold farS FarOk InK at *
  obtain ⟨h1, h2, h3⟩ := h
  dsimp only at hx
  by_cases hc : base < x.1 ∧ x.1 - base ≤ 8
  · rw [if_pos hc]
    omega
  · rw [if_neg hc]
    exact ⟨h1, h2, h3⟩
theorem sub64 {x base : Int} (hx : InK .i64 x) (hb : InK .i64 base) (h : base < x) : IntKind.u64.wrap (IntKind.u64.wrap x - IntKind.u64.wrap base) = x - base := by
  unfold InK at *
  dsimp only at hx hb
  have e : ∀ n : Int, IntKind.u64.wrap n = n % 18446744073709551616 := fun n => rfl
  rw [e, e, e]
  omega
theorem numsP_succ (l : List SgX) (base : Int) (n : Nat) : numsP l base (n + 1) = numsP l base n ++ [numberP 2 3 l (base + (n : Nat) + 1)] := by
  unfold numsP
  rw [List.range_succ, List.map_append]
  rfl
theorem numsP_bad {l : List SgX} {base : Int} {n k : Nat} (h : (numberP 2 3 l (base + (n : Nat) + 1)).2 = false) (hk : n < k) : (numsP l base k).all (·.2) = false := by
  unfold numsP
  rw [List.all_eq_false]
  exact ⟨_, List.mem_map.2 ⟨n, List.mem_range.2 hk, rfl⟩, by rw [h]; decide⟩
theorem own_nil_add {F : PH} {H : List Asrt} {w : World} {E size : Nat} (s : Sat F H w) : Sat F (own (.slice none 0 0) E size 0 [] :: H) w := by
  obtain ⟨r, hr, hd, hl⟩ := s
  exact ⟨PH.emp.un r, ⟨PH.emp, r, ⟨by simp, .inl ⟨rfl, rfl, rfl⟩⟩, hr, PH.emp_dj _, rfl⟩, by rw [PH.emp_un]; exact hd, by rw [PH.emp_un]; exact hl⟩
theorem snoc_range (n : Nat) : List.range (n + 1) = List.range n ++ [n] := List.range_succ
abbrev zCh : List Value := zCho
set_option maxHeartbeats 16000000 in
theorem choose_spec (v : Value) (xs : List SgX) (F : PH) (hr : RowB tySg F v xs) (h10 : Few10 xs) : Spec Try.prog 27 [v, .int .i64 4] F [] fun u F' H' => H' = [] ∧ (match chooseP xs with
    | none => u = .tuple #[.agg zCho.toArray, .int .i64 16]
    | some (p, bs) => OptR (some p) ∧ ∃ bv, u = .tuple #[.agg (choC p.1 p.2.1 bv).toArray, .int .i64 0] ∧ RowB tyEns F' bv bs) := by
  obtain ⟨aa, cc, rfl, hc, hb⟩ := hr.form
  have hnb : baseP 2 3 xs = none → chooseP xs = none := fun h => by unfold chooseP; rw [h]
  refine Spec.of2 Try.func27 rfl rfl fun X w0 => ?_
  repeat (first|refine zJ rfl rfl ?_|refine jr rfl ?_|refine jn ?_|refine zM rfl rfl ?_|(refine zC rfl rfl ?_ rfl ?_;omega)|(refine zD rfl rfl ?_ rfl ?_;omega)|(refine zP rfl ?_ rfl ?_;omega)|refine zG rfl rfl rfl rfl ?_|(refine jdq rfl rfl ?_ ?_ ?_;kernel_rfl;kernel_rfl)|refine zB rfl rfl rfl (by repeat constructor) rfl ?_|refine zH .here rfl rfl rfl rfl ?_|refine zH (.there .here) rfl rfl rfl rfl ?_|refine zH (.there (.there .here)) rfl rfl rfl rfl ?_)
  refine oE (ev_alloc (cs := zCho) rfl) rfl ?_
  rintro _ _ _ _ ⟨rfl, b4, rfl, rfl⟩
  repeat (first|refine zJ rfl rfl ?_|refine jr rfl ?_|refine jn ?_|refine zM rfl rfl ?_|(refine zC rfl rfl ?_ rfl ?_;omega)|(refine zD rfl rfl ?_ rfl ?_;omega)|(refine zP rfl ?_ rfl ?_;omega)|refine zG rfl rfl rfl rfl ?_|(refine jdq rfl rfl ?_ ?_ ?_;kernel_rfl;kernel_rfl)|refine zB rfl rfl rfl (by repeat constructor) rfl ?_|refine zH .here rfl rfl rfl rfl ?_|refine zH (.there .here) rfl rfl rfl rfl ?_|refine zH (.there (.there .here)) rfl rfl rfl rfl ?_)
  refine oC (Hc := []) (Hr := blk b4 63 zCho :: X) (of_spec _ xs F hr) Try.call53 rfl rfl (fun _ s => s) ?_
  rintro _ F1 _ hF1 ⟨rfl, rfl⟩
  refine oE (ev_alloc (cs := zPf) rfl) rfl ?_
  rintro _ _ _ _ ⟨rfl, b6, rfl, rfl⟩
  refine oN (ev_store (b := b6) rfl rfl .agg rfl rfl (lay_all (zs := zPf) rfl) (by unfold pfC; (repeat (first | exact ones_nil | refine ones_cons rfl ?_))) .here) rfl ?_
  rintro _ _ _ _ ⟨rfl, _, rfl⟩
  repeat (first|refine zJ rfl rfl ?_|refine jr rfl ?_|refine jn ?_|refine zM rfl rfl ?_|(refine zC rfl rfl ?_ rfl ?_;omega)|(refine zD rfl rfl ?_ rfl ?_;omega)|(refine zP rfl ?_ rfl ?_;omega)|refine zG rfl rfl rfl rfl ?_|(refine jdq rfl rfl ?_ ?_ ?_;kernel_rfl;kernel_rfl)|refine zB rfl rfl rfl (by repeat constructor) rfl ?_|refine zH .here rfl rfl rfl rfl ?_|refine zH (.there .here) rfl rfl rfl rfl ?_|refine zH (.there (.there .here)) rfl rfl rfl rfl ?_)
  refine oS (ev_load_agg (cs := pfC (.slice aa xs.length cc) 2 3) rfl rfl (Rdb.ofB (n := 0) .here rfl) rfl) rfl ?_
  refine oC (Hc := []) (Hr := blk b6 118 (pfC (.slice aa xs.length cc) 2 3) :: blk b4 63 zCho :: X) (base_spec _ 2 3 xs F1 (hr.mono hF1)) Try.call54 rfl rfl (fun _ s => s) ?_
  rintro _ F2 _ hF2 ⟨rfl, hoR, rfl⟩
  have hr2 := hr.mono (hF1.trans hF2)
  have h33 := optC_len hoR
  repeat (first|refine zJ rfl rfl ?_|refine jr rfl ?_|refine jn ?_|refine zM rfl rfl ?_|(refine zC rfl rfl ?_ rfl ?_;omega)|(refine zD rfl rfl ?_ rfl ?_;omega)|(refine zP rfl ?_ rfl ?_;omega)|refine zG rfl rfl rfl rfl ?_|(refine jdq rfl rfl ?_ ?_ ?_;kernel_rfl;kernel_rfl)|refine zB rfl rfl rfl (by repeat constructor) rfl ?_|refine zH .here rfl rfl rfl rfl ?_|refine zH (.there .here) rfl rfl rfl rfl ?_|refine zH (.there (.there .here)) rfl rfl rfl rfl ?_)
  refine oE (ev_alloc (cs := ptC 0 z32) rfl) rfl ?_
  rintro _ _ _ _ ⟨rfl, b7, rfl, rfl⟩
  refine oN (ev_store (b := b7) rfl rfl .agg rfl h33 (lay_all (zs := ptC 0 z32) h33) (optC_ones _) .here) rfl ?_
  rintro _ _ _ _ ⟨rfl, _, rfl⟩
  cases hbp : baseP 2 3 xs with
  | none =>
    have hch := hnb hbp
    rw [hch]
    repeat (first|refine zJ rfl rfl ?_|refine jr rfl ?_|refine jn ?_|refine zM rfl rfl ?_|(refine zC rfl rfl ?_ rfl ?_;omega)|(refine zD rfl rfl ?_ rfl ?_;omega)|(refine zP rfl ?_ rfl ?_;omega)|refine zG rfl rfl rfl rfl ?_|(refine jdq rfl rfl ?_ ?_ ?_;kernel_rfl;kernel_rfl)|refine zB rfl rfl rfl (by repeat constructor) rfl ?_|refine zH .here rfl rfl rfl rfl ?_|refine zH (.there .here) rfl rfl rfl rfl ?_|refine zH (.there (.there .here)) rfl rfl rfl rfl ?_)
    refine oN (ev_store (b := b4) (vs := zCho) rfl rfl .agg rfl rfl (lay_all (zs := zCho) rfl) (choC_ones rfl) (.there (.there .here))) rfl ?_
    rintro _ _ _ _ ⟨rfl, _, rfl⟩
    repeat (first|refine zJ rfl rfl ?_|refine jr rfl ?_|refine jn ?_|refine zM rfl rfl ?_|(refine zC rfl rfl ?_ rfl ?_;omega)|(refine zD rfl rfl ?_ rfl ?_;omega)|(refine zP rfl ?_ rfl ?_;omega)|refine zG rfl rfl rfl rfl ?_|(refine jdq rfl rfl ?_ ?_ ?_;kernel_rfl;kernel_rfl)|refine zB rfl rfl rfl (by repeat constructor) rfl ?_|refine zH .here rfl rfl rfl rfl ?_|refine zH (.there .here) rfl rfl rfl rfl ?_|refine zH (.there (.there .here)) rfl rfl rfl rfl ?_)
    exact J_retv (vs := [.agg zCho.toArray, .int .i64 16]) rfl (.agg rfl rfl (Rdb.ofB (n := 0) (.there (.there .here)) rfl) rfl (.tmp rfl .nil)) [] (fun w s => s.drop.drop.drop) (hF1.trans hF2) ⟨rfl, rfl⟩
  | some p =>
    rw [hbp] at hoR h33
    obtain ⟨hpk, hp32⟩ := hoR
    have hchp : chooseP xs = if (numsP xs p.1 (farP p.1 xs).toNat).all (·.2) = true then some (p, (numsP xs p.1 (farP p.1 xs).toNat).map (·.1)) else none := by unfold chooseP; rw [hbp]
    repeat (first|refine zJ rfl rfl ?_|refine jr rfl ?_|refine jn ?_|refine zM rfl rfl ?_|(refine zC rfl rfl ?_ rfl ?_;omega)|(refine zD rfl rfl ?_ rfl ?_;omega)|(refine zP rfl ?_ rfl ?_;omega)|refine zG rfl rfl rfl rfl ?_|(refine jdq rfl rfl ?_ ?_ ?_;kernel_rfl;kernel_rfl)|refine zB rfl rfl rfl (by repeat constructor) rfl ?_|refine zH .here rfl rfl rfl rfl ?_|refine zH (.there .here) rfl rfl rfl rfl ?_|refine zH (.there (.there .here)) rfl rfl rfl rfl ?_)
    refine J_loop2 (fun (i : Nat) (n : Int) => i ≤ xs.length ∧ FarOk p.1 n ∧ n = (xs.take i).foldl (farR p.1) 0) (fun i _ => xs.length - i)
      (fun i n => [(6, .pointer (some ⟨b6, 0, none⟩)), (7, .pointer (some ⟨b7, 0, none⟩)), (4, .pointer (some ⟨b4, 0, none⟩)), (9, .int .u64 n), (30, .slice aa xs.length cc), (31, .int .i64 xs.length), (32, .int .i64 i)]) (fun _ _ => F2) (fun _ _ => blk b7 60 (ptC p.1 p.2.1) :: blk b6 118 (pfC (.slice aa xs.length cc) 2 3) :: blk b4 63 zCho :: X) 0 0
      ⟨Nat.zero_le _, ⟨by omega, by omega, by dsimp only [InK] at hpk; omega⟩, rfl⟩ ⟨⟨rfl, rfl, rfl, rfl, rfl, rfl, rfl, trivial⟩, fun _ h => h⟩ ?_
    rintro i n ⟨hi, hfo, hne⟩
    by_cases hlt : i < xs.length
    · have g1 : xs[i]? = some xs[i] := List.getElem?_eq_getElem hlt
      obtain ⟨ba, oa, c1, rfl, hc1, hr1, _⟩ := hr2.1.at g1
      obtain ⟨cs', hcs, _, hch⟩ := sg_of hr1
      subst hcs
      obtain ⟨vp, vq, vr, rfl, _, _, hp, hq, hrr⟩ := ch_of hch
      have hstep := foldl_snoc (farR p.1) 0 g1
      rw [← hne] at hstep
      generalize xs[i] = y at *
      obtain ⟨aq, cq, rfl, hcq, hbq⟩ := hq.form
      have hone := tySg.ones hr1
      repeat (first|refine zJ rfl rfl ?_|refine jr rfl ?_|refine jn ?_|refine zM rfl rfl ?_|(refine zC rfl rfl ?_ rfl ?_;omega)|(refine zD rfl rfl ?_ rfl ?_;omega)|(refine zP rfl ?_ rfl ?_;omega)|refine zG rfl rfl rfl rfl ?_|(refine jdq rfl rfl ?_ ?_ ?_;kernel_rfl;kernel_rfl)|refine zB rfl rfl rfl (by repeat constructor) rfl ?_|refine zH .here rfl rfl rfl rfl ?_|refine zH (.there .here) rfl rfl rfl rfl ?_|refine zH (.there (.there .here)) rfl rfl rfl rfl ?_)
      refine oS (ev_indexAddr rfl rfl rfl hlt) rfl ?_
      refine oS (ev_load_agg rfl rfl (Rdb.ofF hc1) rfl) rfl ?_
      refine oE (ev_alloc (cs := zSg) rfl) rfl ?_
      rintro _ _ _ _ ⟨rfl, b11, rfl, rfl⟩
      refine oN (ev_store (b := b11) rfl rfl .agg rfl rfl (lay_all (zs := zSg) rfl) hone .here) rfl ?_
      rintro _ _ _ _ ⟨rfl, _, rfl⟩
      unfold chC
      repeat (first|refine zJ rfl rfl ?_|refine jr rfl ?_|refine jn ?_|refine zM rfl rfl ?_|(refine zC rfl rfl ?_ rfl ?_;omega)|(refine zD rfl rfl ?_ rfl ?_;omega)|(refine zP rfl ?_ rfl ?_;omega)|refine zG rfl rfl rfl rfl ?_|(refine jdq rfl rfl ?_ ?_ ?_;kernel_rfl;kernel_rfl)|refine zB rfl rfl rfl (by repeat constructor) rfl ?_|refine zH .here rfl rfl rfl rfl ?_|refine zH (.there .here) rfl rfl rfl rfl ?_|refine zH (.there (.there .here)) rfl rfl rfl rfl ?_)
      refine J_loop2 (fun (j : Nat) (n1 : Int) => j ≤ y.2.1.2.2.2.1.length ∧ FarOk p.1 n1 ∧ n1 = (y.2.1.2.2.2.1.take j).foldl (farS p.1) n) (fun j _ => y.2.1.2.2.2.1.length - j)
        (fun j n1 => [(6, .pointer (some ⟨b6, 0, none⟩)), (7, .pointer (some ⟨b7, 0, none⟩)), (4, .pointer (some ⟨b4, 0, none⟩)), (9, .int .u64 n1), (30, .slice (some ⟨ba, oa, none⟩) xs.length cc), (31, .int .i64 xs.length), (32, .int .i64 i), (38, .slice aq y.2.1.2.2.2.1.length cq), (39, .int .i64 y.2.1.2.2.2.1.length), (40, .int .i64 j)]) (fun _ _ => F2) (fun _ _ => blk b7 60 (ptC p.1 p.2.1) :: blk b6 118 (pfC (.slice (some ⟨ba, oa, none⟩) xs.length cc) 2 3) :: blk b4 63 zCho :: X) 0 n
        ⟨Nat.zero_le _, hfo, rfl⟩ ⟨⟨rfl, rfl, rfl, rfl, rfl, rfl, rfl, rfl, rfl, rfl, trivial⟩, fun _ h => h.drop⟩ ?_
      rintro j n1 ⟨hj, hfo1, hne1⟩
      by_cases hjl : j < y.2.1.2.2.2.1.length
      · have g2 : y.2.1.2.2.2.1[j]? = some y.2.1.2.2.2.1[j] := List.getElem?_eq_getElem hjl
        obtain ⟨b5, o5, c5, rfl, hc5, hr5, _⟩ := hq.1.at g2
        have hstep2 := foldl_snoc (farS p.1) n g2
        rw [← hne1] at hstep2
        generalize y.2.1.2.2.2.1[j] = x at *
        obtain ⟨vx, rfl, hxk, _, hxr⟩ := pr_of hr5
        have hone2 := tyPr.ones hr5
        have hfo2 := far_step x hxk hfo1
        rw [← hstep2] at hfo2
        obtain ⟨hn0, hn8, hn63⟩ := id hfo1
        repeat (first|refine zJ rfl rfl ?_|refine jr rfl ?_|refine jn ?_|refine zM rfl rfl ?_|(refine zC rfl rfl ?_ rfl ?_;omega)|(refine zD rfl rfl ?_ rfl ?_;omega)|(refine zP rfl ?_ rfl ?_;omega)|refine zG rfl rfl rfl rfl ?_|(refine jdq rfl rfl ?_ ?_ ?_;kernel_rfl;kernel_rfl)|refine zB rfl rfl rfl (by repeat constructor) rfl ?_|refine zH .here rfl rfl rfl rfl ?_|refine zH (.there .here) rfl rfl rfl rfl ?_|refine zH (.there (.there .here)) rfl rfl rfl rfl ?_)
        refine oS (ev_indexAddr rfl rfl rfl hjl) rfl ?_
        refine oS (ev_load_agg rfl rfl (Rdb.ofF hc5) rfl) rfl ?_
        refine oE (ev_alloc (cs := zPr) rfl) rfl ?_
        rintro _ _ _ _ ⟨rfl, b13, rfl, rfl⟩
        refine oN (ev_store (b := b13) rfl rfl .agg rfl rfl (lay_all (zs := zPr) rfl) hone2 .here) rfl ?_
        rintro _ _ _ _ ⟨rfl, _, rfl⟩
        unfold prC
        repeat (first|refine zJ rfl rfl ?_|refine jr rfl ?_|refine jn ?_|refine zM rfl rfl ?_|(refine zC rfl rfl ?_ rfl ?_;omega)|(refine zD rfl rfl ?_ rfl ?_;omega)|(refine zP rfl ?_ rfl ?_;omega)|refine zG rfl rfl rfl rfl ?_|(refine jdq rfl rfl ?_ ?_ ?_;kernel_rfl;kernel_rfl)|refine zB rfl rfl rfl (by repeat constructor) rfl ?_|refine zH .here rfl rfl rfl rfl ?_|refine zH (.there .here) rfl rfl rfl rfl ?_|refine zH (.there (.there .here)) rfl rfl rfl rfl ?_)
        refine oS (ev_conv rfl rfl rfl rfl) rfl ?_
        repeat (first|refine zJ rfl rfl ?_|refine jr rfl ?_|refine jn ?_|refine zM rfl rfl ?_|(refine zC rfl rfl ?_ rfl ?_;omega)|(refine zD rfl rfl ?_ rfl ?_;omega)|(refine zP rfl ?_ rfl ?_;omega)|refine zG rfl rfl rfl rfl ?_|(refine jdq rfl rfl ?_ ?_ ?_;kernel_rfl;kernel_rfl)|refine zB rfl rfl rfl (by repeat constructor) rfl ?_|refine zH .here rfl rfl rfl rfl ?_|refine zH (.there .here) rfl rfl rfl rfl ?_|refine zH (.there (.there .here)) rfl rfl rfl rfl ?_)
        refine oS (ev_conv rfl rfl rfl rfl) rfl ?_
        refine oS (ev_subw rfl rfl) rfl ?_
        by_cases hx : p.1 < x.1
        · rw [sub64 hxk hpk hx]
          by_cases h8 : x.1 - p.1 ≤ 8
          · have hf : farS p.1 n1 x = max n1 (x.1 - p.1) := by unfold farS; rw [if_pos ⟨hx, h8⟩]
            rw [hf] at hstep2
            rw [hstep2] at hfo2
            repeat (first|refine zJ rfl rfl ?_|refine jr rfl ?_|refine jn ?_|refine zM rfl rfl ?_|(refine zC rfl rfl ?_ rfl ?_;omega)|(refine zD rfl rfl ?_ rfl ?_;omega)|(refine zP rfl ?_ rfl ?_;omega)|refine zG rfl rfl rfl rfl ?_|(refine jdq rfl rfl ?_ ?_ ?_;kernel_rfl;kernel_rfl)|refine zB rfl rfl rfl (by repeat constructor) rfl ?_|refine zH .here rfl rfl rfl rfl ?_|refine zH (.there .here) rfl rfl rfl rfl ?_|refine zH (.there (.there .here)) rfl rfl rfl rfl ?_)
            exact J_again2 (j + 1) (max n1 (x.1 - p.1)) ⟨hjl, hfo2, hstep2.symm⟩ (by omega) ⟨⟨rfl, rfl, rfl, rfl, rfl, rfl, rfl, rfl, rfl, rfl, trivial⟩, fun w s => s.drop⟩
          · have hf : farS p.1 n1 x = n1 := by unfold farS; rw [if_neg (fun h => h8 h.2)]
            rw [hf] at hstep2
            repeat (first|refine zJ rfl rfl ?_|refine jr rfl ?_|refine jn ?_|refine zM rfl rfl ?_|(refine zC rfl rfl ?_ rfl ?_;omega)|(refine zD rfl rfl ?_ rfl ?_;omega)|(refine zP rfl ?_ rfl ?_;omega)|refine zG rfl rfl rfl rfl ?_|(refine jdq rfl rfl ?_ ?_ ?_;kernel_rfl;kernel_rfl)|refine zB rfl rfl rfl (by repeat constructor) rfl ?_|refine zH .here rfl rfl rfl rfl ?_|refine zH (.there .here) rfl rfl rfl rfl ?_|refine zH (.there (.there .here)) rfl rfl rfl rfl ?_)
            exact J_again2 (j + 1) n1 ⟨hjl, hfo1, hstep2.symm⟩ (by omega) ⟨⟨rfl, rfl, rfl, rfl, rfl, rfl, rfl, rfl, rfl, rfl, trivial⟩, fun w s => s.drop⟩
        · have hf : farS p.1 n1 x = n1 := by unfold farS; rw [if_neg (fun h => hx h.1)]
          rw [hf] at hstep2
          repeat (first|refine zJ rfl rfl ?_|refine jr rfl ?_|refine jn ?_|refine zM rfl rfl ?_|(refine zC rfl rfl ?_ rfl ?_;omega)|(refine zD rfl rfl ?_ rfl ?_;omega)|(refine zP rfl ?_ rfl ?_;omega)|refine zG rfl rfl rfl rfl ?_|(refine jdq rfl rfl ?_ ?_ ?_;kernel_rfl;kernel_rfl)|refine zB rfl rfl rfl (by repeat constructor) rfl ?_|refine zH .here rfl rfl rfl rfl ?_|refine zH (.there .here) rfl rfl rfl rfl ?_|refine zH (.there (.there .here)) rfl rfl rfl rfl ?_)
          exact J_again2 (j + 1) n1 ⟨hjl, hfo1, hstep2.symm⟩ (by omega) ⟨⟨rfl, rfl, rfl, rfl, rfl, rfl, rfl, rfl, rfl, rfl, trivial⟩, fun w s => s.drop⟩
      · obtain rfl : j = y.2.1.2.2.2.1.length := by omega
        rw [List.take_length] at hne1
        repeat (first|refine zJ rfl rfl ?_|refine jr rfl ?_|refine jn ?_|refine zM rfl rfl ?_|(refine zC rfl rfl ?_ rfl ?_;omega)|(refine zD rfl rfl ?_ rfl ?_;omega)|(refine zP rfl ?_ rfl ?_;omega)|refine zG rfl rfl rfl rfl ?_|(refine jdq rfl rfl ?_ ?_ ?_;kernel_rfl;kernel_rfl)|refine zB rfl rfl rfl (by repeat constructor) rfl ?_|refine zH .here rfl rfl rfl rfl ?_|refine zH (.there .here) rfl rfl rfl rfl ?_|refine zH (.there (.there .here)) rfl rfl rfl rfl ?_)
        exact J_again2 (i + 1) n1 ⟨hlt, hfo1, by rw [hstep, hne1]; rfl⟩ (by omega) ⟨⟨rfl, rfl, rfl, rfl, rfl, rfl, rfl, trivial⟩, fun w s => s⟩
    · obtain rfl : i = xs.length := by omega
      rw [List.take_length] at hne
      have hne : n = farP p.1 xs := hne
      obtain ⟨hn0, hn8, hn63⟩ := hfo
      obtain ⟨k, rfl⟩ := Int.eq_ofNat_of_zero_le hn0
      rw [show (farP p.1 xs).toNat = k from by rw [← hne]; rfl] at hchp
      repeat (first|refine zJ rfl rfl ?_|refine jr rfl ?_|refine jn ?_|refine zM rfl rfl ?_|(refine zC rfl rfl ?_ rfl ?_;omega)|(refine zD rfl rfl ?_ rfl ?_;omega)|(refine zP rfl ?_ rfl ?_;omega)|refine zG rfl rfl rfl rfl ?_|(refine jdq rfl rfl ?_ ?_ ?_;kernel_rfl;kernel_rfl)|refine zB rfl rfl rfl (by repeat constructor) rfl ?_|refine zH .here rfl rfl rfl rfl ?_|refine zH (.there .here) rfl rfl rfl rfl ?_|refine zH (.there (.there .here)) rfl rfl rfl rfl ?_)
      refine oS (ev_load_agg (cs := ptC p.1 p.2.1) rfl rfl (Rdb.ofB (n := 0) .here (by rw [List.drop_zero, List.take_length])) h33) rfl ?_
      refine oS (ev_build (t := choC p.1 p.2.1 (.slice none 0 0)) rfl rfl rfl ?_) rfl ?_
      · show FillF _ _ (ptC 0 z32 ++ [.slice none 0 0]) (ptC p.1 p.2.1 ++ [.slice none 0 0])
        exact .cons (vs := ptC p.1 p.2.1) .agg rfl h33 (layM [.slice none 0 0] (zs := ptC 0 z32) h33) .nil
      refine oE (ev_alloc (cs := zCho) rfl) rfl ?_
      rintro _ _ _ _ ⟨rfl, b15, rfl, rfl⟩
      refine oN (ev_store (b := b15) (vs := choC p.1 p.2.1 (.slice none 0 0)) rfl rfl .agg rfl (choC_len hp32) (lay_all (zs := zCho) (choC_len hp32)) (choC_ones rfl) .here) rfl ?_
      rintro _ _ _ _ ⟨rfl, _, rfl⟩
      refine oW (H' := own (.slice none 0 0) 33 1 0 [] :: _) ?_ (fun w s => own_nil_add s)
      repeat (first|refine zJ rfl rfl ?_|refine jr rfl ?_|refine jn ?_|refine zM rfl rfl ?_|(refine zC rfl rfl ?_ rfl ?_;omega)|(refine zD rfl rfl ?_ rfl ?_;omega)|(refine zP rfl ?_ rfl ?_;omega)|refine zG rfl rfl rfl rfl ?_|(refine jdq rfl rfl ?_ ?_ ?_;kernel_rfl;kernel_rfl)|refine zB rfl rfl rfl (by repeat constructor) rfl ?_|refine zH .here rfl rfl rfl rfl ?_|refine zH (.there .here) rfl rfl rfl rfl ?_|refine zH (.there (.there .here)) rfl rfl rfl rfl ?_)
      refine J_loop4 (fun (i : Nat) (G : PH) (bv : Value) (css : List (List Value)) => i ≤ k ∧ F2.le G ∧ All2 (tyEns.rep G) ((numsP xs p.1 i).map (·.1)) css ∧ (numsP xs p.1 i).all (·.2) = true) (fun i _ _ _ => k - i)
        (fun i _ _ _ => [(4, .pointer (some ⟨b4, 0, none⟩)), (6, .pointer (some ⟨b6, 0, none⟩)), (7, .pointer (some ⟨b7, 0, none⟩)), (15, .pointer (some ⟨b15, 0, none⟩)), (68, .int .i64 k), (69, .int .i64 i)]) (fun _ G _ _ => G)
        (fun i _ bv css => own bv 33 1 i css.flatten :: blk b15 63 (choC p.1 p.2.1 bv) :: blk b7 60 (ptC p.1 p.2.1) :: blk b6 118 (pfC (.slice aa xs.length cc) 2 3) :: blk b4 63 zCho :: X) 0 F2 (.slice none 0 0) []
        ⟨Nat.zero_le _, PH.ler _, .nil, rfl⟩ ⟨⟨rfl, rfl, rfl, rfl, rfl, rfl, trivial⟩, fun _ h => h⟩ ?_
      rintro i G bv css ⟨hi, hG, hall, hok⟩
      by_cases hlt : i < k
      · refine jOwn .here fun av kv hbv _ _ _ => ?_
        subst hbv
        dsimp only [InK] at hpk
        repeat (first|refine zJ rfl rfl ?_|refine jr rfl ?_|refine jn ?_|refine zM rfl rfl ?_|(refine zC rfl rfl ?_ rfl ?_;omega)|(refine zD rfl rfl ?_ rfl ?_;omega)|(refine zP rfl ?_ rfl ?_;omega)|refine zG rfl rfl rfl rfl ?_|(refine jdq rfl rfl ?_ ?_ ?_;kernel_rfl;kernel_rfl)|refine zB rfl rfl rfl (by repeat constructor) rfl ?_|refine zH .here rfl rfl rfl rfl ?_|refine zH (.there .here) rfl rfl rfl rfl ?_|refine zH (.there (.there .here)) rfl rfl rfl rfl ?_)
        refine oS (ev_load_agg (cs := pfC (.slice aa xs.length cc) 2 3) rfl rfl (Rdb.ofB (n := 0) (.there (.there (.there .here))) rfl) rfl) rfl ?_
        repeat (first|refine zJ rfl rfl ?_|refine jr rfl ?_|refine jn ?_|refine zM rfl rfl ?_|(refine zC rfl rfl ?_ rfl ?_;omega)|(refine zD rfl rfl ?_ rfl ?_;omega)|(refine zP rfl ?_ rfl ?_;omega)|refine zG rfl rfl rfl rfl ?_|(refine jdq rfl rfl ?_ ?_ ?_;kernel_rfl;kernel_rfl)|refine zB rfl rfl rfl (by repeat constructor) rfl ?_|refine zH .here rfl rfl rfl rfl ?_|refine zH (.there .here) rfl rfl rfl rfl ?_|refine zH (.there (.there .here)) rfl rfl rfl rfl ?_)
        refine oC (Hc := []) (Hr := own (.slice av i kv) 33 1 i css.flatten :: blk b15 63 (choC p.1 p.2.1 (.slice av i kv)) :: blk b7 60 (ptC p.1 p.2.1) :: blk b6 118 (pfC (.slice aa xs.length cc) 2 3) :: blk b4 63 zCho :: X) (number_spec (.slice aa xs.length cc) 2 3 (p.1 + (i : Nat) + 1) xs G (hr2.mono hG) h10) Try.call55 rfl rfl (fun _ s => s) ?_
        rintro _ G1 _ hG1 ⟨nv, rfl, hnv, rfl⟩
        cases hk2 : (numberP 2 3 xs (p.1 + (i : Nat) + 1)).2 with
        | false =>
          rw [numsP_bad hk2 hlt] at hchp
          rw [hchp, if_neg (by decide)]
          repeat (first|refine zJ rfl rfl ?_|refine jr rfl ?_|refine jn ?_|refine zM rfl rfl ?_|(refine zC rfl rfl ?_ rfl ?_;omega)|(refine zD rfl rfl ?_ rfl ?_;omega)|(refine zP rfl ?_ rfl ?_;omega)|refine zG rfl rfl rfl rfl ?_|(refine jdq rfl rfl ?_ ?_ ?_;kernel_rfl;kernel_rfl)|refine zB rfl rfl rfl (by repeat constructor) rfl ?_|refine zH .here rfl rfl rfl rfl ?_|refine zH (.there .here) rfl rfl rfl rfl ?_|refine zH (.there (.there .here)) rfl rfl rfl rfl ?_)
          refine oN (ev_store (b := b4) (vs := zCho) rfl rfl .agg rfl rfl (lay_all (zs := zCho) rfl) (choC_ones rfl) (.there (.there (.there (.there .here))))) rfl ?_
          rintro _ _ _ _ ⟨rfl, _, rfl⟩
          repeat (first|refine zJ rfl rfl ?_|refine jr rfl ?_|refine jn ?_|refine zM rfl rfl ?_|(refine zC rfl rfl ?_ rfl ?_;omega)|(refine zD rfl rfl ?_ rfl ?_;omega)|(refine zP rfl ?_ rfl ?_;omega)|refine zG rfl rfl rfl rfl ?_|(refine jdq rfl rfl ?_ ?_ ?_;kernel_rfl;kernel_rfl)|refine zB rfl rfl rfl (by repeat constructor) rfl ?_|refine zH .here rfl rfl rfl rfl ?_|refine zH (.there .here) rfl rfl rfl rfl ?_|refine zH (.there (.there .here)) rfl rfl rfl rfl ?_)
          exact J_retv (vs := [.agg zCho.toArray, .int .i64 16]) rfl (.agg rfl rfl (Rdb.ofB (n := 0) (.there (.there (.there (.there .here)))) rfl) rfl (.tmp rfl .nil)) [] (fun w s => s.drop.drop.drop.drop.drop) (hF1.trans (hF2.trans (hG.trans hG1))) ⟨rfl, rfl⟩
        | true =>
          obtain ⟨na, nc, rfl, _, _⟩ := hnv.form
          repeat (first|refine zJ rfl rfl ?_|refine jr rfl ?_|refine jn ?_|refine zM rfl rfl ?_|(refine zC rfl rfl ?_ rfl ?_;omega)|(refine zD rfl rfl ?_ rfl ?_;omega)|(refine zP rfl ?_ rfl ?_;omega)|refine zG rfl rfl rfl rfl ?_|(refine jdq rfl rfl ?_ ?_ ?_;kernel_rfl;kernel_rfl)|refine zB rfl rfl rfl (by repeat constructor) rfl ?_|refine zH .here rfl rfl rfl rfl ?_|refine zH (.there .here) rfl rfl rfl rfl ?_|refine zH (.there (.there .here)) rfl rfl rfl rfl ?_)
          refine oS (ev_load (v := .slice av i kv) rfl rfl (Rdb.ofB (n := 0) (.there .here) (choC_last hp32))) rfl ?_
          repeat (first|refine zJ rfl rfl ?_|refine jr rfl ?_|refine jn ?_|refine zM rfl rfl ?_|(refine zC rfl rfl ?_ rfl ?_;omega)|(refine zD rfl rfl ?_ rfl ?_;omega)|(refine zP rfl ?_ rfl ?_;omega)|refine zG rfl rfl rfl rfl ?_|(refine jdq rfl rfl ?_ ?_ ?_;kernel_rfl;kernel_rfl)|refine zB rfl rfl rfl (by repeat constructor) rfl ?_|refine zH .here rfl rfl rfl rfl ?_|refine zH (.there .here) rfl rfl rfl rfl ?_|refine zH (.there (.there .here)) rfl rfl rfl rfl ?_)
          refine oA (vs := [.slice na (numberP 2 3 xs (p.1 + (i : Nat) + 1)).1.length nc]) (K := fun v' => own v' 33 1 (i + 1) (css.flatten ++ [.slice na (numberP 2 3 xs (p.1 + (i : Nat) + 1)).1.length nc]) :: blk b15 63 (choC p.1 p.2.1 (.slice av i kv)) :: blk b7 60 (ptC p.1 p.2.1) :: blk b6 118 (pfC (.slice aa xs.length cc) 2 3) :: blk b4 63 zCho :: X) (fun _ => rfl) rfl .slice rfl elBs (ones_cons rfl ones_nil) (by omega) (fun _ => .here) rfl (fun _ => rfl) fun u w => ?_
          refine oOwn (v := u) .here fun au ku hu _ _ _ => ?_
          subst hu
          repeat (first|refine zJ rfl rfl ?_|refine jr rfl ?_|refine jn ?_|refine zM rfl rfl ?_|(refine zC rfl rfl ?_ rfl ?_;omega)|(refine zD rfl rfl ?_ rfl ?_;omega)|(refine zP rfl ?_ rfl ?_;omega)|refine zG rfl rfl rfl rfl ?_|(refine jdq rfl rfl ?_ ?_ ?_;kernel_rfl;kernel_rfl)|refine zB rfl rfl rfl (by repeat constructor) rfl ?_|refine zH .here rfl rfl rfl rfl ?_|refine zH (.there .here) rfl rfl rfl rfl ?_|refine zH (.there (.there .here)) rfl rfl rfl rfl ?_)
          refine oN (ev_store (b := b15) rfl rfl .slice rfl rfl (choC_lay hp32) (ones_cons rfl ones_nil) (.there .here)) rfl ?_
          rintro _ _ _ _ ⟨rfl, _, rfl⟩
          repeat (first|refine zJ rfl rfl ?_|refine jr rfl ?_|refine jn ?_|refine zM rfl rfl ?_|(refine zC rfl rfl ?_ rfl ?_;omega)|(refine zD rfl rfl ?_ rfl ?_;omega)|(refine zP rfl ?_ rfl ?_;omega)|refine zG rfl rfl rfl rfl ?_|(refine jdq rfl rfl ?_ ?_ ?_;kernel_rfl;kernel_rfl)|refine zB rfl rfl rfl (by repeat constructor) rfl ?_|refine zH .here rfl rfl rfl rfl ?_|refine zH (.there .here) rfl rfl rfl rfl ?_|refine zH (.there (.there .here)) rfl rfl rfl rfl ?_)
          refine J_again4 (i + 1) G1 (.slice au (i + 1) ku) (css ++ [[.slice na (numberP 2 3 xs (p.1 + (i : Nat) + 1)).1.length nc]]) ⟨hlt, hG.trans hG1, ?_, ?_⟩ (by omega) ⟨⟨rfl, rfl, rfl, rfl, rfl, rfl, trivial⟩, fun w s => ?_⟩
          · rw [numsP_succ, List.map_append]
            exact (hall.mono fun _ _ hr => tyEns.mono hG1 hr).snoc ⟨_, rfl, hnv⟩
          · rw [numsP_succ, List.all_append, hok]
            simp [hk2]
          · rw [List.flatten_append]
            exact s
      · obtain rfl : i = k := by omega
        rw [if_pos hok] at hchp
        rw [hchp]
        refine jOwn .here fun av kv hbv _ _ _ => ?_
        subst hbv
        repeat (first|refine zJ rfl rfl ?_|refine jr rfl ?_|refine jn ?_|refine zM rfl rfl ?_|(refine zC rfl rfl ?_ rfl ?_;omega)|(refine zD rfl rfl ?_ rfl ?_;omega)|(refine zP rfl ?_ rfl ?_;omega)|refine zG rfl rfl rfl rfl ?_|(refine jdq rfl rfl ?_ ?_ ?_;kernel_rfl;kernel_rfl)|refine zB rfl rfl rfl (by repeat constructor) rfl ?_|refine zH .here rfl rfl rfl rfl ?_|refine zH (.there .here) rfl rfl rfl rfl ?_|refine zH (.there (.there .here)) rfl rfl rfl rfl ?_)
        refine oS (ev_load_agg (cs := choC p.1 p.2.1 (.slice av i kv)) rfl rfl (Rdb.ofB (n := 0) (.there .here) (by rw [List.drop_zero, List.take_length])) (choC_len hp32)) rfl ?_
        refine oN (ev_store (b := b4) rfl rfl .agg rfl (choC_len hp32) (lay_all (zs := zCho) (choC_len hp32)) (choC_ones rfl) (.there (.there (.there (.there .here))))) rfl ?_
        rintro _ _ _ _ ⟨rfl, _, rfl⟩
        repeat (first|refine zJ rfl rfl ?_|refine jr rfl ?_|refine jn ?_|refine zM rfl rfl ?_|(refine zC rfl rfl ?_ rfl ?_;omega)|(refine zD rfl rfl ?_ rfl ?_;omega)|(refine zP rfl ?_ rfl ?_;omega)|refine zG rfl rfl rfl rfl ?_|(refine jdq rfl rfl ?_ ?_ ?_;kernel_rfl;kernel_rfl)|refine zB rfl rfl rfl (by repeat constructor) rfl ?_|refine zH .here rfl rfl rfl rfl ?_|refine zH (.there .here) rfl rfl rfl rfl ?_|refine zH (.there (.there .here)) rfl rfl rfl rfl ?_)
        refine J_persist fun hh hA hd => ?_
        have hlen : ((numsP xs p.1 i).map (·.1)).length = i := by simp [numsP]
        exact J_retv (vs := [.agg (choC p.1 p.2.1 (.slice av i kv)).toArray, .int .i64 0]) rfl (.agg rfl rfl (Rdb.ofB (n := 0) (.there (.there (.there .here))) (by rw [List.drop_zero, List.take_length])) (choC_len hp32) (.tmp rfl .nil)) [] (fun w s => s.drop.drop.drop.drop) (hF1.trans (hF2.trans (hG.trans (PH.le_l _ _)))) ⟨rfl, ⟨hpk, hp32⟩, _, rfl, row_own (te := tyEns) hA hd hall hlen, by rw [hlen]; unfold maxLen; omega⟩
end Go.Proofs.Ytdoaloimndehbaa
