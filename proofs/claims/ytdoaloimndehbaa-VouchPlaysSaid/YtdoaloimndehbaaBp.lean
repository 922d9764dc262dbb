/-
  The document's vouchings: Add. Conditions are typed with each.
-/
import Derived.Test.YtdoaloimndehbaaBn
namespace Go.Proofs.Ytdoaloimndehbaa
open Go.RowKit
set_option maxRecDepth 100000
def keyB (who c s : Int) (o : Ax) : Bool := decide (o.1 = who) && (decide (o.2.c = c) && decide (o.2.s = s))
/-- What the document's Add does. -/
inductive AddRef (n : Int) (R : List Ax) (who : Int) (x : Vo) : Bool → List Ax → Prop where
  | out (h : inB n who x.c = false) : AddRef n R who x false R
  | old {i : Nat} {o : Ax} (h : inB n who x.c = true) (hi : R[i]? = some o) (hk : keyB who x.c x.s o = true) (hd : o.2.d ≠ x.d ∨ o.2.m ||| x.m = o.2.m) : AddRef n R who x false R
  | more {i : Nat} {o : Ax} (h : inB n who x.c = true) (hi : R[i]? = some o) (hk : keyB who x.c x.s o = true) (hd : o.2.d = x.d) (hm : o.2.m ||| x.m ≠ o.2.m) : AddRef n R who x true (R.set i (who, ⟨x.c, x.s, x.d, o.2.m ||| x.m⟩))
  | late {y : Vo} (h : inB n who x.c = true) (hno : ∀ o ∈ R, keyB who x.c x.s o = false) (h4 : (ofR R who x.c).length = 4) (hy : (ofR R who x.c)[0]? = some y) (hl : x.s < y.s) : AddRef n R who x false R
  | full {y : Vo} (h : inB n who x.c = true) (hno : ∀ o ∈ R, keyB who x.c x.s o = false) (h4 : (ofR R who x.c).length = 4) (hy : (ofR R who x.c)[0]? = some y) (hl : ¬ x.s < y.s) : AddRef n R who x true (R.filter (fun o => !(decide (o.1 = who) && decide (o.2 = y))) ++ [(who, x)])
  | new (h : inB n who x.c = true) (hno : ∀ o ∈ R, keyB who x.c x.s o = false) (h4 : (ofR R who x.c).length < 4) : AddRef n R who x true (R ++ [(who, x)])
abbrev rblk (br : Nat) (n : Int) (lv : Value) : Asrt := blk br 88 [.int .i64 n, lv]
theorem elOne : Elem Try.prog 86 140 36 64 (.agg zOne.toArray) := ⟨rfl, ⟨_, rfl, rfl, rfl, rfl, rfl, by decide⟩, rfl, rfl⟩
theorem one_build (who : Int) (x : Vo) : FillF [(0, 1), (1, 35)] [(0, .int .i64 who), (1, .agg x.cs.toArray)] zOne (oCs1 (who, x)) :=
  .cons .int rfl rfl (.put .nil) (.cons .agg rfl x.len (.skip (lay_all (by rw [x.len]; rfl))) .nil)
set_option maxHeartbeats 32000000 in
theorem radd_spec (br : Nat) (n who : Int) (x : Vo) (lv : Value) (R : List Ax) (F : PH) (hrow : OR F lv R) (hn : R.length ≤ 200) (h1 : 1 ≤ n) (h7 : n ≤ 7) (h4 : (ofR R who x.c).length ≤ 4) :
    Spec Try.prog 35 [pT br, .int .i64 who, .agg x.cs.toArray] F [rblk br n lv] fun u F' H' => ∃ r lv' R', u = .bool r ∧ AddRef n R who x r R' ∧ H' = [rblk br n lv'] ∧ OR F' lv' R' := by
  refine Spec.of3 Try.func35 rfl rfl fun X w0 => ?_
  refine jc rfl rfl ?_
  refine jr rfl ?_
  refine oE (ev_box rfl .agg) rfl ?_; rintro _ _ _ _ ⟨rfl, b5, rfl, rfl⟩
  dsimp only [List.cons_append, List.nil_append]
  have hin : inB n who x.c = decide (0 ≤ who ∧ who < n ∧ n ≤ x.c ∧ x.c < n + 4) := rfl
  by_cases g1 : who < 0
  · repeat (first|refine zJ rfl rfl ?_|refine jr rfl ?_|refine jn ?_|refine zM rfl rfl ?_|(refine zC rfl rfl ?_ rfl ?_;omega)|(refine zD rfl rfl ?_ rfl ?_;omega)|(refine zP rfl ?_ rfl ?_;omega)|refine zG rfl rfl rfl rfl ?_|(refine jdq rfl rfl ?_ ?_ ?_;kernel_rfl;kernel_rfl)|refine zB rfl rfl rfl (by repeat constructor) rfl ?_|refine zH .here rfl rfl rfl rfl ?_|refine zH (.there .here) rfl rfl rfl rfl ?_|refine zH (.there (.there .here)) rfl rfl rfl rfl ?_)
    exact J_retv rfl (.tmp rfl .nil) [_] (fun w s => s.drop) (PH.ler _) ⟨_, lv, R, rfl, .out (by rw [hin]; exact decide_eq_false (by omega)), rfl, hrow⟩
  by_cases g2 : n ≤ who
  · repeat (first|refine zJ rfl rfl ?_|refine jr rfl ?_|refine jn ?_|refine zM rfl rfl ?_|(refine zC rfl rfl ?_ rfl ?_;omega)|(refine zD rfl rfl ?_ rfl ?_;omega)|(refine zP rfl ?_ rfl ?_;omega)|refine zG rfl rfl rfl rfl ?_|(refine jdq rfl rfl ?_ ?_ ?_;kernel_rfl;kernel_rfl)|refine zB rfl rfl rfl (by repeat constructor) rfl ?_|refine zH .here rfl rfl rfl rfl ?_|refine zH (.there .here) rfl rfl rfl rfl ?_|refine zH (.there (.there .here)) rfl rfl rfl rfl ?_)
    exact J_retv rfl (.tmp rfl .nil) [_] (fun w s => s.drop) (PH.ler _) ⟨_, lv, R, rfl, .out (by rw [hin]; exact decide_eq_false (by omega)), rfl, hrow⟩
  by_cases g3 : x.c < n
  · repeat (first|refine zJ rfl rfl ?_|refine jr rfl ?_|refine jn ?_|refine zM rfl rfl ?_|(refine zC rfl rfl ?_ rfl ?_;omega)|(refine zD rfl rfl ?_ rfl ?_;omega)|(refine zP rfl ?_ rfl ?_;omega)|refine zG rfl rfl rfl rfl ?_|(refine jdq rfl rfl ?_ ?_ ?_;kernel_rfl;kernel_rfl)|refine zB rfl rfl rfl (by repeat constructor) rfl ?_|refine zH .here rfl rfl rfl rfl ?_|refine zH (.there .here) rfl rfl rfl rfl ?_|refine zH (.there (.there .here)) rfl rfl rfl rfl ?_)
    exact J_retv rfl (.tmp rfl .nil) [_] (fun w s => s.drop) (PH.ler _) ⟨_, lv, R, rfl, .out (by rw [hin]; exact decide_eq_false (by omega)), rfl, hrow⟩
  by_cases g4 : n + 3 < x.c
  · repeat (first|refine zJ rfl rfl ?_|refine jr rfl ?_|refine jn ?_|refine zM rfl rfl ?_|(refine zC rfl rfl ?_ rfl ?_;omega)|(refine zD rfl rfl ?_ rfl ?_;omega)|(refine zP rfl ?_ rfl ?_;omega)|refine zG rfl rfl rfl rfl ?_|(refine jdq rfl rfl ?_ ?_ ?_;kernel_rfl;kernel_rfl)|refine zB rfl rfl rfl (by repeat constructor) rfl ?_|refine zH .here rfl rfl rfl rfl ?_|refine zH (.there .here) rfl rfl rfl rfl ?_|refine zH (.there (.there .here)) rfl rfl rfl rfl ?_)
    exact J_retv rfl (.tmp rfl .nil) [_] (fun w s => s.drop) (PH.ler _) ⟨_, lv, R, rfl, .out (by rw [hin]; exact decide_eq_false (by omega)), rfl, hrow⟩
  replace hin : inB n who x.c = true := hin.trans (decide_eq_true (by omega))
  obtain ⟨a, cc, rfl, hcc⟩ := hrow.form
  repeat (first|refine zJ rfl rfl ?_|refine jr rfl ?_|refine jn ?_|refine zM rfl rfl ?_|(refine zC rfl rfl ?_ rfl ?_;omega)|(refine zD rfl rfl ?_ rfl ?_;omega)|(refine zP rfl ?_ rfl ?_;omega)|refine zG rfl rfl rfl rfl ?_|(refine jdq rfl rfl ?_ ?_ ?_;kernel_rfl;kernel_rfl)|refine zB rfl rfl rfl (by repeat constructor) rfl ?_|refine zH .here rfl rfl rfl rfl ?_|refine zH (.there .here) rfl rfl rfl rfl ?_|refine zH (.there (.there .here)) rfl rfl rfl rfl ?_)
  refine J_loop (ι := Nat) (fun j => j ≤ R.length ∧ ∀ q o, q < j → R[q]? = some o → keyB who x.c x.s o = false) (fun j => R.length - j) (fun j => [(0, pT br), (1, .int .i64 who), (5, .pointer (some ⟨b5, 0, none⟩)), (45, .slice a R.length cc), (46, .int .i64 R.length), (47, .int .i64 j)]) (fun _ => F) (fun _ => blk b5 72 x.cs :: rblk br n (.slice a R.length cc) :: X) 0 ⟨Nat.zero_le _, fun q o hq => absurd hq (by omega)⟩ ⟨⟨rfl, rfl, rfl, rfl, rfl, rfl, trivial⟩, fun _ s => s⟩ ?_
  rintro j ⟨hj, hno⟩
  by_cases hlt : j < R.length
  · have hg : R[j]? = some R[j] := List.getElem?_eq_getElem hlt
    obtain ⟨b1, o1, rfl, hc1, _⟩ := hrow.at hg
    have hnext : keyB who x.c x.s R[j] = false → ∀ q o, q < j + 1 → R[q]? = some o → keyB who x.c x.s o = false := fun h q o hq e => by
      by_cases hqj : q < j
      · exact hno q o hqj e
      · obtain rfl : q = j := by omega
        rw [hg] at e; cases e; exact h
    generalize R[j] = o at *
    repeat (first|refine zJ rfl rfl ?_|refine jr rfl ?_|refine jn ?_|refine zM rfl rfl ?_|(refine zC rfl rfl ?_ rfl ?_;omega)|(refine zD rfl rfl ?_ rfl ?_;omega)|(refine zP rfl ?_ rfl ?_;omega)|refine zG rfl rfl rfl rfl ?_|(refine jdq rfl rfl ?_ ?_ ?_;kernel_rfl;kernel_rfl)|refine zB rfl rfl rfl (by repeat constructor) rfl ?_|refine zH .here rfl rfl rfl rfl ?_|refine zH (.there .here) rfl rfl rfl rfl ?_|refine zH (.there (.there .here)) rfl rfl rfl rfl ?_)
    refine oS (ev_indexAddr rfl rfl rfl hlt) rfl ?_
    refine oS (ev_load_agg (n := 36) rfl rfl (Rdb.ofF hc1) (oCs1_len o)) rfl ?_
    refine oE (ev_alloc (cs := zOne) rfl) rfl ?_
    rintro _ _ _ _ ⟨rfl, b8, rfl, rfl⟩
    repeat (first|refine zJ rfl rfl ?_|refine jr rfl ?_|refine jn ?_|refine zM rfl rfl ?_|(refine zC rfl rfl ?_ rfl ?_;omega)|(refine zD rfl rfl ?_ rfl ?_;omega)|(refine zP rfl ?_ rfl ?_;omega)|refine zG rfl rfl rfl rfl ?_|(refine jdq rfl rfl ?_ ?_ ?_;kernel_rfl;kernel_rfl)|refine zB rfl rfl rfl (by repeat constructor) rfl ?_|refine zH .here rfl rfl rfl rfl ?_|refine zH (.there .here) rfl rfl rfl rfl ?_|refine zH (.there (.there .here)) rfl rfl rfl rfl ?_)
    refine oN (ev_store rfl rfl .agg rfl (oCs1_len o) (lay_all (zs := zOne) (by rw [oCs1_len]; rfl)) (oCs1_ones o) .here) rfl ?_
    rintro _ _ _ _ ⟨rfl, _, rfl⟩
    by_cases k1 : o.1 = who
    rotate_left
    · have hk : keyB who x.c x.s o = false := by unfold keyB; rw [decide_eq_false k1, Bool.false_and]
      repeat (first|refine zJ rfl rfl ?_|refine jr rfl ?_|refine jn ?_|refine zM rfl rfl ?_|(refine zC rfl rfl ?_ rfl ?_;omega)|(refine zD rfl rfl ?_ rfl ?_;omega)|(refine zP rfl ?_ rfl ?_;omega)|refine zG rfl rfl rfl rfl ?_|(refine jdq rfl rfl ?_ ?_ ?_;kernel_rfl;kernel_rfl)|refine zB rfl rfl rfl (by repeat constructor) rfl ?_|refine zH .here rfl rfl rfl rfl ?_|refine zH (.there .here) rfl rfl rfl rfl ?_|refine zH (.there (.there .here)) rfl rfl rfl rfl ?_)
      exact J_again (j + 1) ⟨hlt, hnext hk⟩ (by omega) ⟨⟨rfl, rfl, rfl, rfl, rfl, rfl, trivial⟩, fun w s => s.drop⟩
    by_cases k2 : o.2.c = x.c
    rotate_left
    · have hk : keyB who x.c x.s o = false := by unfold keyB; rw [decide_eq_false k2, Bool.false_and, Bool.and_false]
      repeat (first|refine zJ rfl rfl ?_|refine jr rfl ?_|refine jn ?_|refine zM rfl rfl ?_|(refine zC rfl rfl ?_ rfl ?_;omega)|(refine zD rfl rfl ?_ rfl ?_;omega)|(refine zP rfl ?_ rfl ?_;omega)|refine zG rfl rfl rfl rfl ?_|(refine jdq rfl rfl ?_ ?_ ?_;kernel_rfl;kernel_rfl)|refine zB rfl rfl rfl (by repeat constructor) rfl ?_|refine zH .here rfl rfl rfl rfl ?_|refine zH (.there .here) rfl rfl rfl rfl ?_|refine zH (.there (.there .here)) rfl rfl rfl rfl ?_)
      exact J_again (j + 1) ⟨hlt, hnext hk⟩ (by omega) ⟨⟨rfl, rfl, rfl, rfl, rfl, rfl, trivial⟩, fun w s => s.drop⟩
    by_cases k3 : o.2.s = x.s
    rotate_left
    · have hk : keyB who x.c x.s o = false := by unfold keyB; rw [decide_eq_false k3, Bool.and_false, Bool.and_false]
      repeat (first|refine zJ rfl rfl ?_|refine jr rfl ?_|refine jn ?_|refine zM rfl rfl ?_|(refine zC rfl rfl ?_ rfl ?_;omega)|(refine zD rfl rfl ?_ rfl ?_;omega)|(refine zP rfl ?_ rfl ?_;omega)|refine zG rfl rfl rfl rfl ?_|(refine jdq rfl rfl ?_ ?_ ?_;kernel_rfl;kernel_rfl)|refine zB rfl rfl rfl (by repeat constructor) rfl ?_|refine zH .here rfl rfl rfl rfl ?_|refine zH (.there .here) rfl rfl rfl rfl ?_|refine zH (.there (.there .here)) rfl rfl rfl rfl ?_)
      exact J_again (j + 1) ⟨hlt, hnext hk⟩ (by omega) ⟨⟨rfl, rfl, rfl, rfl, rfl, rfl, trivial⟩, fun w s => s.drop⟩
    have hk : keyB who x.c x.s o = true := by unfold keyB; rw [decide_eq_true k1, decide_eq_true k2, decide_eq_true k3]; rfl
    repeat (first|refine zJ rfl rfl ?_|refine jr rfl ?_|refine jn ?_|refine zM rfl rfl ?_|(refine zC rfl rfl ?_ rfl ?_;omega)|(refine zD rfl rfl ?_ rfl ?_;omega)|(refine zP rfl ?_ rfl ?_;omega)|refine zG rfl rfl rfl rfl ?_|(refine jdq rfl rfl ?_ ?_ ?_;kernel_rfl;kernel_rfl)|refine zB rfl rfl rfl (by repeat constructor) rfl ?_|refine zH .here rfl rfl rfl rfl ?_|refine zH (.there .here) rfl rfl rfl rfl ?_|refine zH (.there (.there .here)) rfl rfl rfl rfl ?_)
    refine jd rfl ?_ ?_ ?_; kernel_rfl; kernel_rfl
    repeat (first|refine zJ rfl rfl ?_|refine jr rfl ?_|refine jn ?_|refine zM rfl rfl ?_|(refine zC rfl rfl ?_ rfl ?_;omega)|(refine zD rfl rfl ?_ rfl ?_;omega)|(refine zP rfl ?_ rfl ?_;omega)|refine zG rfl rfl rfl rfl ?_|(refine jdq rfl rfl ?_ ?_ ?_;kernel_rfl;kernel_rfl)|refine zB rfl rfl rfl (by repeat constructor) rfl ?_|refine zH .here rfl rfl rfl rfl ?_|refine zH (.there .here) rfl rfl rfl rfl ?_|refine zH (.there (.there .here)) rfl rfl rfl rfl ?_)
    refine oS (ev_ldD (d := o.2.d) .here rfl (dg_at3 _ _ _ _ _)) rfl ?_
    repeat (first|refine zJ rfl rfl ?_|refine jr rfl ?_|refine jn ?_|refine zM rfl rfl ?_|(refine zC rfl rfl ?_ rfl ?_;omega)|(refine zD rfl rfl ?_ rfl ?_;omega)|(refine zP rfl ?_ rfl ?_;omega)|refine zG rfl rfl rfl rfl ?_|(refine jdq rfl rfl ?_ ?_ ?_;kernel_rfl;kernel_rfl)|refine zB rfl rfl rfl (by repeat constructor) rfl ?_|refine zH .here rfl rfl rfl rfl ?_|refine zH (.there .here) rfl rfl rfl rfl ?_|refine zH (.there (.there .here)) rfl rfl rfl rfl ?_)
    refine oS (ev_ldD (d := x.d) (.there .here) rfl (dg_at2 _ _ _ _)) rfl ?_
    refine oS (ev_neD rfl rfl) rfl ?_
    by_cases hd : o.2.d = x.d
    rotate_left
    · rw [decide_eq_false hd]
      repeat (first|refine zJ rfl rfl ?_|refine jr rfl ?_|refine jn ?_|refine zM rfl rfl ?_|(refine zC rfl rfl ?_ rfl ?_;omega)|(refine zD rfl rfl ?_ rfl ?_;omega)|(refine zP rfl ?_ rfl ?_;omega)|refine zG rfl rfl rfl rfl ?_|(refine jdq rfl rfl ?_ ?_ ?_;kernel_rfl;kernel_rfl)|refine zB rfl rfl rfl (by repeat constructor) rfl ?_|refine zH .here rfl rfl rfl rfl ?_|refine zH (.there .here) rfl rfl rfl rfl ?_|refine zH (.there (.there .here)) rfl rfl rfl rfl ?_)
      exact J_retv rfl (.tmp rfl .nil) [_] (fun w s => s.drop.drop) (PH.ler _) ⟨_, _, R, rfl, .old hin hg hk (.inl hd), rfl, hrow⟩
    rw [decide_eq_true hd]
    repeat (first|refine zJ rfl rfl ?_|refine jr rfl ?_|refine jn ?_|refine zM rfl rfl ?_|(refine zC rfl rfl ?_ rfl ?_;omega)|(refine zD rfl rfl ?_ rfl ?_;omega)|(refine zP rfl ?_ rfl ?_;omega)|refine zG rfl rfl rfl rfl ?_|(refine jdq rfl rfl ?_ ?_ ?_;kernel_rfl;kernel_rfl)|refine zB rfl rfl rfl (by repeat constructor) rfl ?_|refine zH .here rfl rfl rfl rfl ?_|refine zH (.there .here) rfl rfl rfl rfl ?_|refine zH (.there (.there .here)) rfl rfl rfl rfl ?_)
    refine oS (ev_load (v := w32 o.2.m) rfl rfl (Rdb.ofB (n := 0) .here (mk_at3 _ _ _ _ _))) rfl ?_
    repeat (first|refine zJ rfl rfl ?_|refine jr rfl ?_|refine jn ?_|refine zM rfl rfl ?_|(refine zC rfl rfl ?_ rfl ?_;omega)|(refine zD rfl rfl ?_ rfl ?_;omega)|(refine zP rfl ?_ rfl ?_;omega)|refine zG rfl rfl rfl rfl ?_|(refine jdq rfl rfl ?_ ?_ ?_;kernel_rfl;kernel_rfl)|refine zB rfl rfl rfl (by repeat constructor) rfl ?_|refine zH .here rfl rfl rfl rfl ?_|refine zH (.there .here) rfl rfl rfl rfl ?_|refine zH (.there (.there .here)) rfl rfl rfl rfl ?_)
    refine oS (ev_load (v := w32 x.m) rfl rfl (Rdb.ofB (n := 0) (.there .here) (mk_at2 _ _ _ _))) rfl ?_
    refine oP (both_spec o.2.m x.m F) Try.call62 rfl rfl ?_
    repeat (first|refine zJ rfl rfl ?_|refine jr rfl ?_|refine jn ?_|refine zM rfl rfl ?_|(refine zC rfl rfl ?_ rfl ?_;omega)|(refine zD rfl rfl ?_ rfl ?_;omega)|(refine zP rfl ?_ rfl ?_;omega)|refine zG rfl rfl rfl rfl ?_|(refine jdq rfl rfl ?_ ?_ ?_;kernel_rfl;kernel_rfl)|refine zB rfl rfl rfl (by repeat constructor) rfl ?_|refine zH .here rfl rfl rfl rfl ?_|refine zH (.there .here) rfl rfl rfl rfl ?_|refine zH (.there (.there .here)) rfl rfl rfl rfl ?_)
    refine oS (ev_load (v := w32 o.2.m) rfl rfl (Rdb.ofB (n := 0) .here (mk_at3 _ _ _ _ _))) rfl ?_
    by_cases hm : o.2.m ||| x.m = o.2.m
    · refine oS (ev_eqW (a := o.2.m ||| x.m) rfl rfl (decide_eq_true hm)) rfl ?_
      repeat (first|refine zJ rfl rfl ?_|refine jr rfl ?_|refine jn ?_|refine zM rfl rfl ?_|(refine zC rfl rfl ?_ rfl ?_;omega)|(refine zD rfl rfl ?_ rfl ?_;omega)|(refine zP rfl ?_ rfl ?_;omega)|refine zG rfl rfl rfl rfl ?_|(refine jdq rfl rfl ?_ ?_ ?_;kernel_rfl;kernel_rfl)|refine zB rfl rfl rfl (by repeat constructor) rfl ?_|refine zH .here rfl rfl rfl rfl ?_|refine zH (.there .here) rfl rfl rfl rfl ?_|refine zH (.there (.there .here)) rfl rfl rfl rfl ?_)
      exact J_retv rfl (.tmp rfl .nil) [_] (fun w s => s.drop.drop) (PH.ler _) ⟨_, _, R, rfl, .old hin hg hk (.inr hm), rfl, hrow⟩
    refine oS (ev_eqW (a := o.2.m ||| x.m) rfl rfl (decide_eq_false hm)) rfl ?_
    repeat (first|refine zJ rfl rfl ?_|refine jr rfl ?_|refine jn ?_|refine zM rfl rfl ?_|(refine zC rfl rfl ?_ rfl ?_;omega)|(refine zD rfl rfl ?_ rfl ?_;omega)|(refine zP rfl ?_ rfl ?_;omega)|refine zG rfl rfl rfl rfl ?_|(refine jdq rfl rfl ?_ ?_ ?_;kernel_rfl;kernel_rfl)|refine zB rfl rfl rfl (by repeat constructor) rfl ?_|refine zH .here rfl rfl rfl rfl ?_|refine zH (.there .here) rfl rfl rfl rfl ?_|refine zH (.there (.there .here)) rfl rfl rfl rfl ?_)
    refine oS (ev_load (v := w32 o.2.m) rfl rfl (Rdb.ofB (n := 0) .here (mk_at3 _ _ _ _ _))) rfl ?_
    repeat (first|refine zJ rfl rfl ?_|refine jr rfl ?_|refine jn ?_|refine zM rfl rfl ?_|(refine zC rfl rfl ?_ rfl ?_;omega)|(refine zD rfl rfl ?_ rfl ?_;omega)|(refine zP rfl ?_ rfl ?_;omega)|refine zG rfl rfl rfl rfl ?_|(refine jdq rfl rfl ?_ ?_ ?_;kernel_rfl;kernel_rfl)|refine zB rfl rfl rfl (by repeat constructor) rfl ?_|refine zH .here rfl rfl rfl rfl ?_|refine zH (.there .here) rfl rfl rfl rfl ?_|refine zH (.there (.there .here)) rfl rfl rfl rfl ?_)
    refine oS (ev_load (v := w32 x.m) rfl rfl (Rdb.ofB (n := 0) (.there .here) (mk_at2 _ _ _ _))) rfl ?_
    refine oP (both_spec o.2.m x.m F) Try.call62 rfl rfl ?_
    repeat (first|refine zJ rfl rfl ?_|refine jr rfl ?_|refine jn ?_|refine zM rfl rfl ?_|(refine zC rfl rfl ?_ rfl ?_;omega)|(refine zD rfl rfl ?_ rfl ?_;omega)|(refine zP rfl ?_ rfl ?_;omega)|refine zG rfl rfl rfl rfl ?_|(refine jdq rfl rfl ?_ ?_ ?_;kernel_rfl;kernel_rfl)|refine zB rfl rfl rfl (by repeat constructor) rfl ?_|refine zH .here rfl rfl rfl rfl ?_|refine zH (.there .here) rfl rfl rfl rfl ?_|refine zH (.there (.there .here)) rfl rfl rfl rfl ?_)
    refine oN (ev_store (vs := [w32 (o.2.m ||| x.m)]) rfl rfl .int rfl rfl (vo_mask x (o.2.m ||| x.m)) (ones_cons rfl ones_nil) (.there .here)) rfl ?_
    rintro _ _ _ _ ⟨rfl, _, rfl⟩
    obtain ⟨x', hx'⟩ : ∃ x' : Vo, x' = ⟨x.c, x.s, x.d, o.2.m ||| x.m⟩ := ⟨_, rfl⟩
    rw [← hx']
    have hpre : SliceV F 36 (.slice (some ⟨b1, o1, none⟩) j cc) j (oCs (R.take j)) := by
      obtain ⟨e1, a', c', e2, e3, e4⟩ := id hrow
      cases e2
      have hl1 : (R.take j).length = j := by rw [List.length_take]; omega
      refine ⟨by rw [oCs_len, hl1], _, cc, rfl, by omega, fun h0 => ?_⟩
      obtain ⟨b, off, ha, hcc⟩ := e4 (by omega)
      refine ⟨b, off, ha, fun q u e => hcc q u ?_⟩
      rw [← oCs_take, List.getElem?_take] at e
      split at e
      · exact e
      · cases e
    have hsuf := OR.cut hrow (lo := j + 1) (hi := R.length) (m := cc) (by omega) (Nat.le_refl _) hcc
    rw [List.take_of_length_le (by rw [List.length_drop]; exact Nat.le_refl _)] at hsuf
    have hl2 : (R.drop (j + 1)).length = R.length - (j + 1) := by rw [List.length_drop]
    repeat (first|refine zJ rfl rfl ?_|refine jr rfl ?_|refine jn ?_|refine zM rfl rfl ?_|(refine zC rfl rfl ?_ rfl ?_;omega)|(refine zD rfl rfl ?_ rfl ?_;omega)|(refine zP rfl ?_ rfl ?_;omega)|refine zG rfl rfl rfl rfl ?_|(refine jdq rfl rfl ?_ ?_ ?_;kernel_rfl;kernel_rfl)|refine zB rfl rfl rfl (by repeat constructor) rfl ?_|refine zH .here rfl rfl rfl rfl ?_|refine zH (.there .here) rfl rfl rfl rfl ?_|refine zH (.there (.there .here)) rfl rfl rfl rfl ?_)
    refine jaL F [blk b8 140 (oCs1 o), blk b5 72 x'.cs, rblk br n (.slice (some ⟨b1, o1, none⟩) R.length cc)] rfl ?_ ?_ (fun w t => Sat.left (A := [_, _, _]) t) ?_; kernel_rfl; kernel_rfl; dsimp only [List.dropLast]
    refine aT 0 rfl (ev_qe rfl) rfl rfl ?_ ?_ ?_ ?_; kernel_rfl; kernel_rfl; kernel_rfl
    refine aT 2 rfl (ev_qe rfl) rfl rfl ?_ ?_ ?_ ?_; kernel_rfl; kernel_rfl; kernel_rfl
    refine aT 3 rfl (ev_qe rfl) rfl rfl ?_ ?_ ?_ ?_; kernel_rfl; kernel_rfl; kernel_rfl
    refine aT 4 rfl (ev_qe rfl) rfl rfl ?_ ?_ ?_ ?_; kernel_rfl; kernel_rfl; kernel_rfl
    refine aT 5 rfl (ev_load (v := .slice (some ⟨b1, o1, none⟩) R.length cc) rfl rfl (Rdb.ofB (n := 0) (.there (.there .here)) rfl)) rfl rfl ?_ ?_ ?_ ?_; kernel_rfl; kernel_rfl; kernel_rfl
    refine aT 6 rfl (ev_qe rfl) rfl rfl ?_ ?_ ?_ ?_; kernel_rfl; kernel_rfl; kernel_rfl
    refine aT 7 rfl (ev_slice_hi (h := j) rfl rfl rfl (by omega)) rfl rfl ?_ ?_ ?_ ?_; kernel_rfl; kernel_rfl; kernel_rfl
    refine aT 9 rfl (ev_qe rfl) rfl rfl ?_ ?_ ?_ ?_; kernel_rfl; kernel_rfl; kernel_rfl
    refine aT 10 rfl (ev_load_agg (cs := x'.cs) rfl rfl (Rdb.ofB (n := 0) (.there .here) (by rw [List.drop_zero, List.take_length])) x'.len) rfl rfl ?_ ?_ ?_ ?_; kernel_rfl; kernel_rfl; kernel_rfl
    refine aT 11 rfl (ev_build (t := oCs1 (who, x')) (zs := zOne) rfl rfl rfl (one_build who x')) rfl rfl ?_ ?_ ?_ ?_; kernel_rfl; kernel_rfl; kernel_rfl
    refine aT 14 rfl (ev_qe rfl) rfl rfl ?_ ?_ ?_ ?_; kernel_rfl; kernel_rfl; kernel_rfl
    refine aT 15 rfl (ev_qe rfl) rfl rfl ?_ ?_ ?_ ?_; kernel_rfl; kernel_rfl; kernel_rfl
    refine aT 16 rfl (ev_qe rfl) rfl rfl ?_ ?_ ?_ ?_; kernel_rfl; kernel_rfl; kernel_rfl
    refine aT 17 rfl (ev_load (v := .slice (some ⟨b1, o1, none⟩) R.length cc) rfl rfl (Rdb.ofB (n := 0) (.there (.there .here)) rfl)) rfl rfl ?_ ?_ ?_ ?_; kernel_rfl; kernel_rfl; kernel_rfl
    refine aT 18 rfl (ev_qe rfl) rfl rfl ?_ ?_ ?_ ?_; kernel_rfl; kernel_rfl; kernel_rfl
    refine aT 19 rfl (ea rfl rfl rfl (by (dsimp only [InK]; first | omega | exact ⟨Int.natCast_nonneg _, by omega⟩))) rfl rfl ?_ ?_ ?_ ?_; kernel_rfl; kernel_rfl; kernel_rfl
    refine aT 20 rfl (ev_slice_lo (lo := j + 1) rfl rfl rfl (by omega)) rfl rfl ?_ ?_ ?_ ?_; kernel_rfl; kernel_rfl; kernel_rfl
    refine aApp2 (a := 1) (b := 8) (c := 12) (d := 13) (da := 98) (db := 105) (dc := 109) (dd := 110) (tA := 104) (ty := 108) (nA := j) (bytes := 64) rfl rfl rfl rfl rfl rfl ?_ ?_ ?_ ?_ ?_ ?_ ?_ ?_ .agg (oCs1_len (who, x')) (oCs1_ones (who, x')) elOne (fun H => hpre.rds) (oCs_ones _) (by omega) (fun w t => Sat.left (A := [_, _, _]) t) ?_; kernel_rfl; kernel_rfl; kernel_rfl; kernel_rfl; kernel_rfl; kernel_rfl; kernel_rfl; kernel_rfl
    intro u wa wb wc
    refine aB (i := 21) (by kernel_rfl) (aE rfl (ev_append_s (n := j + 1) (m := R.length - (j + 1)) (bytes := 64) (xs := oCs (R.take j) ++ oCs1 (who, x')) (news := oCs (R.drop (j + 1))) (K := fun v' => own v' 140 36 (j + 1 + (R.length - (j + 1))) (oCs (R.take j) ++ oCs1 (who, x') ++ oCs (R.drop (j + 1))) :: blk b8 140 (oCs1 o) :: blk b5 72 x'.cs :: rblk br n (.slice (some ⟨b1, o1, none⟩) R.length cc) :: X) rfl rfl elOne (by
      have h9 := SliceV.rds (H := own u 140 36 (j + 1) (oCs (R.take j) ++ oCs1 (who, x')) :: blk b8 140 (oCs1 o) :: blk b5 72 x'.cs :: rblk br n (.slice (some ⟨b1, o1, none⟩) R.length cc) :: X) hsuf
      rw [hl2] at h9; exact h9) (oCs_ones _) (by omega) (fun v' => .here)) rfl rfl (fun _ _ _ _ hq w t => by obtain ⟨rfl, _, rfl⟩ := hq; exact Sat.left (A := [_, _, _]) t.drop) ?_)
    rintro u3 _ _ _ ⟨rfl, _, rfl⟩
    refine aT 22 rfl (ev_qe rfl) rfl rfl ?_ ?_ ?_ ?_; kernel_rfl; kernel_rfl; kernel_rfl
    refine aT 23 rfl (ev_qe rfl) rfl rfl ?_ ?_ ?_ ?_; kernel_rfl; kernel_rfl; kernel_rfl
    refine aD (by kernel_rfl) ?_
    refine jL rfl ?_
    refine oOwnA .here fun a3 c3 hu3 hnc3 _ _ _ => ?_
    subst hu3
    refine oN (ev_store (vs := [.slice a3 (j + 1 + (R.length - (j + 1))) c3]) (s := [.int .i64 n, .slice a3 (j + 1 + (R.length - (j + 1))) c3]) rfl rfl .slice rfl rfl (.skip (.put .nil)) (ones_cons rfl ones_nil) (.there (.there (.there .here)))) rfl ?_
    rintro _ _ _ _ ⟨rfl, _, rfl⟩
    repeat (first|refine zJ rfl rfl ?_|refine jr rfl ?_|refine jn ?_|refine zM rfl rfl ?_|(refine zC rfl rfl ?_ rfl ?_;omega)|(refine zD rfl rfl ?_ rfl ?_;omega)|(refine zP rfl ?_ rfl ?_;omega)|refine zG rfl rfl rfl rfl ?_|(refine jdq rfl rfl ?_ ?_ ?_;kernel_rfl;kernel_rfl)|refine zB rfl rfl rfl (by repeat constructor) rfl ?_|refine zH .here rfl rfl rfl rfl ?_|refine zH (.there .here) rfl rfl rfl rfl ?_|refine zH (.there (.there .here)) rfl rfl rfl rfl ?_)
    refine J_persist fun hh hA hdj => ?_
    have hset : R.set j (who, x') = R.take j ++ (who, x') :: R.drop (j + 1) := by rw [List.set_eq_take_append_cons_drop, if_pos hlt]
    have hnew : OR (F.un hh) (.slice a3 (j + 1 + (R.length - (j + 1))) c3) (R.set j (who, x')) := by
      have h9 := own_slice hA hdj
      rw [List.append_assoc, show oCs1 (who, x') ++ oCs (R.drop (j + 1)) = oCs ((who, x') :: R.drop (j + 1)) from by simp [oCs], ← oCs_app, ← hset] at h9
      unfold OR
      rw [List.length_set]
      rwa [show j + 1 + (R.length - (j + 1)) = R.length from by omega] at h9 ⊢
    refine J_retv rfl (.tmp rfl .nil) [_] (fun w s => s.drop.drop) (PH.le_l _ _) ⟨_, _, _, rfl, ?_, rfl, hnew⟩
    rw [hx']
    exact .more hin hg hk hd hm
  · obtain rfl : j = R.length := by omega
    have hall : ∀ o ∈ R, keyB who x.c x.s o = false := fun o ho => by
      obtain ⟨q, hq⟩ := List.getElem?_of_mem ho
      exact hno q o (List.getElem?_eq_some_iff.1 hq).1 hq
    refine J_pick (.there .here) ?_
    refine J_persist fun hh hA hdj => ?_
    have q1 : hh.le (F.un hh) := PH.le_r hdj
    have hrf : RF (F.un hh) br n (.slice a R.length cc) R := ⟨blk_cells hA hdj, hrow.mono (PH.le_l _ _)⟩
    have q0 := PH.le_l F hh
    generalize F.un hh = F1 at *
    repeat (first|refine zJ rfl rfl ?_|refine jr rfl ?_|refine jn ?_|refine zM rfl rfl ?_|(refine zC rfl rfl ?_ rfl ?_;omega)|(refine zD rfl rfl ?_ rfl ?_;omega)|(refine zP rfl ?_ rfl ?_;omega)|refine zG rfl rfl rfl rfl ?_|(refine jdq rfl rfl ?_ ?_ ?_;kernel_rfl;kernel_rfl)|refine zB rfl rfl rfl (by repeat constructor) rfl ?_|refine zH .here rfl rfl rfl rfl ?_|refine zH (.there .here) rfl rfl rfl rfl ?_|refine zH (.there (.there .here)) rfl rfl rfl rfl ?_)
    refine oC (Hc := []) (Hr := blk b5 72 x.cs :: X) (rof_spec br n who x.c _ R F1 hrf (by omega)) Try.call37 rfl rfl (fun _ s => s) ?_
    rintro ov F2 _ hF2 ⟨rfl, hov⟩
    replace hrf := hrf.mono hF2
    replace q1 := q1.trans hF2
    have q2 : F.le (PH.sub F2 hh) := PH.le_sub (q0.trans hF2) hdj
    have hofl := ofR_len R who x.c
    obtain ⟨a9, c9, rfl, hc9⟩ := hov.form
    generalize how : ofR R who x.c = ow at *
    by_cases h44 : ow.length = 4
    · have hy0 : ow[0]? = some ow[0] := List.getElem?_eq_getElem (by omega)
      obtain ⟨b29, o29, rfl, hc29, _⟩ := hov.at hy0
      generalize ow[0] = y0 at *
      repeat (first|refine zJ rfl rfl ?_|refine jr rfl ?_|refine jn ?_|refine zM rfl rfl ?_|(refine zC rfl rfl ?_ rfl ?_;omega)|(refine zD rfl rfl ?_ rfl ?_;omega)|(refine zP rfl ?_ rfl ?_;omega)|refine zG rfl rfl rfl rfl ?_|(refine jdq rfl rfl ?_ ?_ ?_;kernel_rfl;kernel_rfl)|refine zB rfl rfl rfl (by repeat constructor) rfl ?_|refine zH .here rfl rfl rfl rfl ?_|refine zH (.there .here) rfl rfl rfl rfl ?_|refine zH (.there (.there .here)) rfl rfl rfl rfl ?_)
      refine oS (ev_indexAddr (i := 0) rfl rfl rfl (by omega)) rfl ?_
      repeat (first|refine zJ rfl rfl ?_|refine jr rfl ?_|refine jn ?_|refine zM rfl rfl ?_|(refine zC rfl rfl ?_ rfl ?_;omega)|(refine zD rfl rfl ?_ rfl ?_;omega)|(refine zP rfl ?_ rfl ?_;omega)|refine zG rfl rfl rfl rfl ?_|(refine jdq rfl rfl ?_ ?_ ?_;kernel_rfl;kernel_rfl)|refine zB rfl rfl rfl (by repeat constructor) rfl ?_|refine zH .here rfl rfl rfl rfl ?_|refine zH (.there .here) rfl rfl rfl rfl ?_|refine zH (.there (.there .here)) rfl rfl rfl rfl ?_)
      refine oS (ev_load (v := .int .i64 y0.s) rfl rfl (Rdb.ofF (cells_at hc29 1 rfl))) rfl ?_
      by_cases hl : x.s < y0.s
      · repeat (first|refine zJ rfl rfl ?_|refine jr rfl ?_|refine jn ?_|refine zM rfl rfl ?_|(refine zC rfl rfl ?_ rfl ?_;omega)|(refine zD rfl rfl ?_ rfl ?_;omega)|(refine zP rfl ?_ rfl ?_;omega)|refine zG rfl rfl rfl rfl ?_|(refine jdq rfl rfl ?_ ?_ ?_;kernel_rfl;kernel_rfl)|refine zB rfl rfl rfl (by repeat constructor) rfl ?_|refine zH .here rfl rfl rfl rfl ?_|refine zH (.there .here) rfl rfl rfl rfl ?_|refine zH (.there (.there .here)) rfl rfl rfl rfl ?_)
        refine J_takeBack hA q1 ?_
        exact J_retv rfl (.tmp rfl .nil) [_] (fun w s => Sat.drop2 s) q2 ⟨_, _, R, rfl, .late hin hall (by rw [how]; exact h44) (by rw [how]; exact hy0) hl, rfl, hrow.mono q2⟩
      obtain ⟨kp, hkp⟩ : ∃ kp : Ax → Bool, ∃ y, ow.length = 4 ∧ ow[0]? = some y ∧ ¬ x.s < y.s ∧ kp = fun o => !(decide (o.1 = who) && decide (o.2 = y)) := ⟨_, y0, h44, hy0, hl, rfl⟩
      generalize ha9 : some (⟨b29, o29, none⟩ : Addr) = a9 at *
      (repeat (first|refine zJ rfl rfl ?_|refine jr rfl ?_|refine jn ?_|refine zM rfl rfl ?_|(refine zC rfl rfl ?_ rfl ?_;omega)|(refine zD rfl rfl ?_ rfl ?_;omega)|(refine zP rfl ?_ rfl ?_;omega)|refine zG rfl rfl rfl rfl ?_|(refine jdq rfl rfl ?_ ?_ ?_;kernel_rfl;kernel_rfl)|refine zB rfl rfl rfl (by repeat constructor) rfl ?_|refine zH .here rfl rfl rfl rfl ?_|refine zH (.there .here) rfl rfl rfl rfl ?_|refine zH (.there (.there .here)) rfl rfl rfl rfl ?_)) 
      refine oS (ev_load (v := .slice a R.length cc) rfl rfl (Rdb.ofF (cells_at hrf.blk 1 rfl))) rfl ?_ 
      (repeat (first|refine zJ rfl rfl ?_|refine jr rfl ?_|refine jn ?_|refine zM rfl rfl ?_|(refine zC rfl rfl ?_ rfl ?_;omega)|(refine zD rfl rfl ?_ rfl ?_;omega)|(refine zP rfl ?_ rfl ?_;omega)|refine zG rfl rfl rfl rfl ?_|(refine jdq rfl rfl ?_ ?_ ?_;kernel_rfl;kernel_rfl)|refine zB rfl rfl rfl (by repeat constructor) rfl ?_|refine zH .here rfl rfl rfl rfl ?_|refine zH (.there .here) rfl rfl rfl rfl ?_|refine zH (.there (.there .here)) rfl rfl rfl rfl ?_)) 
      refine J_weak (F' := F2) (H' := own (.slice none 0 0) 140 36 ((R.take 0).filter kp).length (oCs ((R.take 0).filter kp)) :: blk b5 72 x.cs :: X) ?_ (fun w s => s.nilOwn _ _) 
      refine J_loop2 (fun (j : Nat) (v : Value) => j ≤ R.length) (fun j _ => R.length - j) (fun j v => [(0, pT br), (1, .int .i64 who), (5, .pointer (some ⟨b5, 0, none⟩)), (9, .slice a9 ow.length c9), (10, v), (142, .slice a R.length cc), (143, .int .i64 R.length), (144, .int .i64 j)]) (fun _ _ => F2) (fun j v => own v 140 36 ((R.take j).filter kp).length (oCs ((R.take j).filter kp)) :: blk b5 72 x.cs :: X) 0 (.slice none 0 0) (Nat.zero_le _) ⟨⟨rfl, rfl, rfl, rfl, rfl, rfl, rfl, rfl, trivial⟩, fun _ s => s⟩ ?_ 
      rintro j v hj 
      by_cases hlt : j < R.length 
      · have hg : R[j]? = some R[j] := List.getElem?_eq_getElem hlt 
        obtain ⟨b1, o1, rfl, hc1, _⟩ := hrf.row.at hg 
        have hsn : (R.take (j + 1)).filter kp = (R.take j).filter kp ++ (if kp R[j] then [R[j]] else []) := by 
          rw [List.take_add_one, hg, Option.toList_some, List.filter_append, List.filter_cons, List.filter_nil] 
        have hll : ((R.take j).filter kp).length ≤ j := by 
          have := List.length_filter_le kp (R.take j) 
          rw [List.length_take] at this 
          omega 
        generalize R[j] = o at * 
        (repeat (first|refine zJ rfl rfl ?_|refine jr rfl ?_|refine jn ?_|refine zM rfl rfl ?_|(refine zC rfl rfl ?_ rfl ?_;omega)|(refine zD rfl rfl ?_ rfl ?_;omega)|(refine zP rfl ?_ rfl ?_;omega)|refine zG rfl rfl rfl rfl ?_|(refine jdq rfl rfl ?_ ?_ ?_;kernel_rfl;kernel_rfl)|refine zB rfl rfl rfl (by repeat constructor) rfl ?_|refine zH .here rfl rfl rfl rfl ?_|refine zH (.there .here) rfl rfl rfl rfl ?_|refine zH (.there (.there .here)) rfl rfl rfl rfl ?_)) 
        refine oS (ev_indexAddr rfl rfl rfl hlt) rfl ?_ 
        refine oS (ev_load_agg (n := 36) rfl rfl (Rdb.ofF hc1) (oCs1_len o)) rfl ?_ 
        refine oE (ev_alloc (cs := zOne) rfl) rfl ?_ 
        rintro _ _ _ _ ⟨rfl, b12, rfl, rfl⟩ 
        refine oN (ev_store rfl rfl .agg rfl (oCs1_len o) (lay_all (zs := zOne) (by rw [oCs1_len]; rfl)) (oCs1_ones o) .here) rfl ?_ 
        rintro _ _ _ _ ⟨rfl, _, rfl⟩ 
        obtain ⟨y, h44', hy, hl', hkpe⟩ := hkp 
        have hko : kp o = !(decide (o.1 = who) && decide (o.2 = y)) := by rw [hkpe] 
        rw [hko] at hsn 
        by_cases k1 : o.1 = who 
        rotate_left 
        · rw [decide_eq_false k1, Bool.false_and, Bool.not_false, if_pos rfl] at hsn 
          (repeat (first|refine zJ rfl rfl ?_|refine jr rfl ?_|refine jn ?_|refine zM rfl rfl ?_|(refine zC rfl rfl ?_ rfl ?_;omega)|(refine zD rfl rfl ?_ rfl ?_;omega)|(refine zP rfl ?_ rfl ?_;omega)|refine zG rfl rfl rfl rfl ?_|(refine jdq rfl rfl ?_ ?_ ?_;kernel_rfl;kernel_rfl)|refine zB rfl rfl rfl (by repeat constructor) rfl ?_|refine zH .here rfl rfl rfl rfl ?_|refine zH (.there .here) rfl rfl rfl rfl ?_|refine zH (.there (.there .here)) rfl rfl rfl rfl ?_)) 
          refine oS (ev_load_agg (cs := oCs1 o) rfl rfl (Rdb.ofB (n := 0) .here (by rw [List.drop_zero, List.take_length])) (oCs1_len o)) rfl ?_ 
          refine oA (size := 36) (bytes := 64) (vs := oCs1 o) (n := ((R.take j).filter kp).length) (xs := oCs ((R.take j).filter kp)) (fun _ => rfl) rfl .agg (oCs1_len o) elOne (oCs1_ones o) (by omega) (fun v' => .there .here) rfl (fun _ => rfl) fun u w => ?_ 
          (repeat (first|refine zJ rfl rfl ?_|refine jr rfl ?_|refine jn ?_|refine zM rfl rfl ?_|(refine zC rfl rfl ?_ rfl ?_;omega)|(refine zD rfl rfl ?_ rfl ?_;omega)|(refine zP rfl ?_ rfl ?_;omega)|refine zG rfl rfl rfl rfl ?_|(refine jdq rfl rfl ?_ ?_ ?_;kernel_rfl;kernel_rfl)|refine zB rfl rfl rfl (by repeat constructor) rfl ?_|refine zH .here rfl rfl rfl rfl ?_|refine zH (.there .here) rfl rfl rfl rfl ?_|refine zH (.there (.there .here)) rfl rfl rfl rfl ?_)) 
          exact J_again2 (j + 1) u hlt (by omega) ⟨⟨rfl, rfl, rfl, rfl, rfl, rfl, rfl, rfl, trivial⟩, fun w t => by rw [hsn, oCs_app, List.length_append, show oCs [o] = oCs1 o from by simp [oCs]]; exact t.drop⟩ 
        rw [decide_eq_true k1, Bool.true_and] at hsn 
        obtain ⟨b19, o19, rfl, hc19, _⟩ := hov.at hy 
        (repeat (first|refine zJ rfl rfl ?_|refine jr rfl ?_|refine jn ?_|refine zM rfl rfl ?_|(refine zC rfl rfl ?_ rfl ?_;omega)|(refine zD rfl rfl ?_ rfl ?_;omega)|(refine zP rfl ?_ rfl ?_;omega)|refine zG rfl rfl rfl rfl ?_|(refine jdq rfl rfl ?_ ?_ ?_;kernel_rfl;kernel_rfl)|refine zB rfl rfl rfl (by repeat constructor) rfl ?_|refine zH .here rfl rfl rfl rfl ?_|refine zH (.there .here) rfl rfl rfl rfl ?_|refine zH (.there (.there .here)) rfl rfl rfl rfl ?_)) 
        refine oS (ev_load_agg (cs := o.2.cs) rfl rfl (Rdb.ofB (n := 0) .here (vo_at1 o)) o.2.len) rfl ?_ 
        (repeat (first|refine zJ rfl rfl ?_|refine jr rfl ?_|refine jn ?_|refine zM rfl rfl ?_|(refine zC rfl rfl ?_ rfl ?_;omega)|(refine zD rfl rfl ?_ rfl ?_;omega)|(refine zP rfl ?_ rfl ?_;omega)|refine zG rfl rfl rfl rfl ?_|(refine jdq rfl rfl ?_ ?_ ?_;kernel_rfl;kernel_rfl)|refine zB rfl rfl rfl (by repeat constructor) rfl ?_|refine zH .here rfl rfl rfl rfl ?_|refine zH (.there .here) rfl rfl rfl rfl ?_|refine zH (.there (.there .here)) rfl rfl rfl rfl ?_)) 
        refine oS (ev_indexAddr (i := 0) rfl rfl rfl (by omega)) rfl ?_ 
        refine oS (ev_load_agg (n := 35) rfl rfl (Rdb.ofF hc19) y.len) rfl ?_ 
        refine oS (ev_vo_neq rfl rfl) rfl ?_ 
        by_cases k2 : o.2 = y 
        · rw [decide_eq_true k2, Bool.not_true, if_neg (by decide), List.append_nil] at hsn 
          rw [decide_eq_true k2] 
          (repeat (first|refine zJ rfl rfl ?_|refine jr rfl ?_|refine jn ?_|refine zM rfl rfl ?_|(refine zC rfl rfl ?_ rfl ?_;omega)|(refine zD rfl rfl ?_ rfl ?_;omega)|(refine zP rfl ?_ rfl ?_;omega)|refine zG rfl rfl rfl rfl ?_|(refine jdq rfl rfl ?_ ?_ ?_;kernel_rfl;kernel_rfl)|refine zB rfl rfl rfl (by repeat constructor) rfl ?_|refine zH .here rfl rfl rfl rfl ?_|refine zH (.there .here) rfl rfl rfl rfl ?_|refine zH (.there (.there .here)) rfl rfl rfl rfl ?_)) 
          exact J_again2 (j + 1) v hlt (by omega) ⟨⟨rfl, rfl, rfl, rfl, rfl, rfl, rfl, rfl, trivial⟩, fun w t => by rw [hsn]; exact t.drop⟩ 
        · rw [decide_eq_false k2, Bool.not_false, if_pos rfl] at hsn 
          rw [decide_eq_false k2] 
          (repeat (first|refine zJ rfl rfl ?_|refine jr rfl ?_|refine jn ?_|refine zM rfl rfl ?_|(refine zC rfl rfl ?_ rfl ?_;omega)|(refine zD rfl rfl ?_ rfl ?_;omega)|(refine zP rfl ?_ rfl ?_;omega)|refine zG rfl rfl rfl rfl ?_|(refine jdq rfl rfl ?_ ?_ ?_;kernel_rfl;kernel_rfl)|refine zB rfl rfl rfl (by repeat constructor) rfl ?_|refine zH .here rfl rfl rfl rfl ?_|refine zH (.there .here) rfl rfl rfl rfl ?_|refine zH (.there (.there .here)) rfl rfl rfl rfl ?_)) 
          refine oS (ev_load_agg (cs := oCs1 o) rfl rfl (Rdb.ofB (n := 0) .here (by rw [List.drop_zero, List.take_length])) (oCs1_len o)) rfl ?_ 
          refine oA (size := 36) (bytes := 64) (vs := oCs1 o) (n := ((R.take j).filter kp).length) (xs := oCs ((R.take j).filter kp)) (fun _ => rfl) rfl .agg (oCs1_len o) elOne (oCs1_ones o) (by omega) (fun v' => .there .here) rfl (fun _ => rfl) fun u w => ?_ 
          (repeat (first|refine zJ rfl rfl ?_|refine jr rfl ?_|refine jn ?_|refine zM rfl rfl ?_|(refine zC rfl rfl ?_ rfl ?_;omega)|(refine zD rfl rfl ?_ rfl ?_;omega)|(refine zP rfl ?_ rfl ?_;omega)|refine zG rfl rfl rfl rfl ?_|(refine jdq rfl rfl ?_ ?_ ?_;kernel_rfl;kernel_rfl)|refine zB rfl rfl rfl (by repeat constructor) rfl ?_|refine zH .here rfl rfl rfl rfl ?_|refine zH (.there .here) rfl rfl rfl rfl ?_|refine zH (.there (.there .here)) rfl rfl rfl rfl ?_)) 
          exact J_again2 (j + 1) u hlt (by omega) ⟨⟨rfl, rfl, rfl, rfl, rfl, rfl, rfl, rfl, trivial⟩, fun w t => by rw [hsn, oCs_app, List.length_append, show oCs [o] = oCs1 o from by simp [oCs]]; exact t.drop⟩ 
      obtain rfl : j = R.length := by omega 
      rw [List.take_length] 
      have hfl := List.length_filter_le kp R 
      refine J_takeBack hA q1 ?_ 
      generalize PH.sub F2 hh = F3 at * 
      (repeat (first|refine zJ rfl rfl ?_|refine jr rfl ?_|refine jn ?_|refine zM rfl rfl ?_|(refine zC rfl rfl ?_ rfl ?_;omega)|(refine zD rfl rfl ?_ rfl ?_;omega)|(refine zP rfl ?_ rfl ?_;omega)|refine zG rfl rfl rfl rfl ?_|(refine jdq rfl rfl ?_ ?_ ?_;kernel_rfl;kernel_rfl)|refine zB rfl rfl rfl (by repeat constructor) rfl ?_|refine zH .here rfl rfl rfl rfl ?_|refine zH (.there .here) rfl rfl rfl rfl ?_|refine zH (.there (.there .here)) rfl rfl rfl rfl ?_)) 
      refine oS (ev_load_agg (cs := x.cs) rfl rfl (Rdb.ofB (n := 0) (.there (.there .here)) (by rw [List.drop_zero, List.take_length])) x.len) rfl ?_ 
      refine oS (ev_build (t := oCs1 (who, x)) (zs := zOne) rfl rfl rfl (one_build who x)) rfl ?_ 
      refine oA (size := 36) (bytes := 64) (vs := oCs1 (who, x)) (n := (R.filter kp).length) (xs := oCs (R.filter kp)) (fun _ => rfl) rfl .agg (oCs1_len (who, x)) elOne (oCs1_ones (who, x)) (by omega) (fun v' => .there .here) rfl (fun _ => rfl) fun u w => ?_ 
      refine oOwnA (.there .here) fun a3 c3 hu3 hnc3 _ _ _ => ?_ 
      subst hu3 
      (repeat (first|refine zJ rfl rfl ?_|refine jr rfl ?_|refine jn ?_|refine zM rfl rfl ?_|(refine zC rfl rfl ?_ rfl ?_;omega)|(refine zD rfl rfl ?_ rfl ?_;omega)|(refine zP rfl ?_ rfl ?_;omega)|refine zG rfl rfl rfl rfl ?_|(refine jdq rfl rfl ?_ ?_ ?_;kernel_rfl;kernel_rfl)|refine zB rfl rfl rfl (by repeat constructor) rfl ?_|refine zH .here rfl rfl rfl rfl ?_|refine zH (.there .here) rfl rfl rfl rfl ?_|refine zH (.there (.there .here)) rfl rfl rfl rfl ?_)) 
      refine oN (ev_store (vs := [.slice a3 ((R.filter kp).length + 1) c3]) (s := [.int .i64 n, .slice a3 ((R.filter kp).length + 1) c3]) rfl rfl .slice rfl rfl (.skip (.put .nil)) (ones_cons rfl ones_nil) .here) rfl ?_ 
      rintro _ _ _ _ ⟨rfl, _, rfl⟩ 
      (repeat (first|refine zJ rfl rfl ?_|refine jr rfl ?_|refine jn ?_|refine zM rfl rfl ?_|(refine zC rfl rfl ?_ rfl ?_;omega)|(refine zD rfl rfl ?_ rfl ?_;omega)|(refine zP rfl ?_ rfl ?_;omega)|refine zG rfl rfl rfl rfl ?_|(refine jdq rfl rfl ?_ ?_ ?_;kernel_rfl;kernel_rfl)|refine zB rfl rfl rfl (by repeat constructor) rfl ?_|refine zH .here rfl rfl rfl rfl ?_|refine zH (.there .here) rfl rfl rfl rfl ?_|refine zH (.there (.there .here)) rfl rfl rfl rfl ?_)) 
      refine J_pick (.there .here) ?_ 
      refine J_persist fun hh2 hA2 hdj2 => ?_ 
      have hnew : OR (F3.un hh2) (.slice a3 ((R.filter kp).length + 1) c3) (R.filter kp ++ [(who, x)]) := by 
        have h9 := own_slice hA2 hdj2 
        rw [show oCs1 (who, x) = oCs [(who, x)] from by simp [oCs], ← oCs_app] at h9 
        unfold OR 
        rw [List.length_append] 
        exact h9 
      refine J_retv rfl (.tmp rfl .nil) [_] (fun w s => Sat.drop2 s) (q2.trans (PH.le_l _ _)) ⟨_, _, _, rfl, ?_, rfl, hnew⟩ 
      obtain ⟨y, h44', hy, hl', hkpe⟩ := hkp 
      rw [hkpe] 
      exact .full hin hall (by rw [how]; exact h44') (by rw [how]; exact hy) hl'
    · obtain ⟨kp, hkp⟩ : ∃ kp : Ax → Bool, ow.length < 4 ∧ kp = fun _ => true := ⟨_, by omega, rfl⟩
      (repeat (first|refine zJ rfl rfl ?_|refine jr rfl ?_|refine jn ?_|refine zM rfl rfl ?_|(refine zC rfl rfl ?_ rfl ?_;omega)|(refine zD rfl rfl ?_ rfl ?_;omega)|(refine zP rfl ?_ rfl ?_;omega)|refine zG rfl rfl rfl rfl ?_|(refine jdq rfl rfl ?_ ?_ ?_;kernel_rfl;kernel_rfl)|refine zB rfl rfl rfl (by repeat constructor) rfl ?_|refine zH .here rfl rfl rfl rfl ?_|refine zH (.there .here) rfl rfl rfl rfl ?_|refine zH (.there (.there .here)) rfl rfl rfl rfl ?_)) 
      refine oS (ev_load (v := .slice a R.length cc) rfl rfl (Rdb.ofF (cells_at hrf.blk 1 rfl))) rfl ?_ 
      (repeat (first|refine zJ rfl rfl ?_|refine jr rfl ?_|refine jn ?_|refine zM rfl rfl ?_|(refine zC rfl rfl ?_ rfl ?_;omega)|(refine zD rfl rfl ?_ rfl ?_;omega)|(refine zP rfl ?_ rfl ?_;omega)|refine zG rfl rfl rfl rfl ?_|(refine jdq rfl rfl ?_ ?_ ?_;kernel_rfl;kernel_rfl)|refine zB rfl rfl rfl (by repeat constructor) rfl ?_|refine zH .here rfl rfl rfl rfl ?_|refine zH (.there .here) rfl rfl rfl rfl ?_|refine zH (.there (.there .here)) rfl rfl rfl rfl ?_)) 
      refine J_weak (F' := F2) (H' := own (.slice none 0 0) 140 36 ((R.take 0).filter kp).length (oCs ((R.take 0).filter kp)) :: blk b5 72 x.cs :: X) ?_ (fun w s => s.nilOwn _ _) 
      refine J_loop2 (fun (j : Nat) (v : Value) => j ≤ R.length) (fun j _ => R.length - j) (fun j v => [(0, pT br), (1, .int .i64 who), (5, .pointer (some ⟨b5, 0, none⟩)), (9, .slice a9 ow.length c9), (10, v), (142, .slice a R.length cc), (143, .int .i64 R.length), (144, .int .i64 j)]) (fun _ _ => F2) (fun j v => own v 140 36 ((R.take j).filter kp).length (oCs ((R.take j).filter kp)) :: blk b5 72 x.cs :: X) 0 (.slice none 0 0) (Nat.zero_le _) ⟨⟨rfl, rfl, rfl, rfl, rfl, rfl, rfl, rfl, trivial⟩, fun _ s => s⟩ ?_ 
      rintro j v hj 
      by_cases hlt : j < R.length 
      · have hg : R[j]? = some R[j] := List.getElem?_eq_getElem hlt 
        obtain ⟨b1, o1, rfl, hc1, _⟩ := hrf.row.at hg 
        have hsn : (R.take (j + 1)).filter kp = (R.take j).filter kp ++ (if kp R[j] then [R[j]] else []) := by 
          rw [List.take_add_one, hg, Option.toList_some, List.filter_append, List.filter_cons, List.filter_nil] 
        have hll : ((R.take j).filter kp).length ≤ j := by 
          have := List.length_filter_le kp (R.take j) 
          rw [List.length_take] at this 
          omega 
        generalize R[j] = o at * 
        (repeat (first|refine zJ rfl rfl ?_|refine jr rfl ?_|refine jn ?_|refine zM rfl rfl ?_|(refine zC rfl rfl ?_ rfl ?_;omega)|(refine zD rfl rfl ?_ rfl ?_;omega)|(refine zP rfl ?_ rfl ?_;omega)|refine zG rfl rfl rfl rfl ?_|(refine jdq rfl rfl ?_ ?_ ?_;kernel_rfl;kernel_rfl)|refine zB rfl rfl rfl (by repeat constructor) rfl ?_|refine zH .here rfl rfl rfl rfl ?_|refine zH (.there .here) rfl rfl rfl rfl ?_|refine zH (.there (.there .here)) rfl rfl rfl rfl ?_)) 
        refine oS (ev_indexAddr rfl rfl rfl hlt) rfl ?_ 
        refine oS (ev_load_agg (n := 36) rfl rfl (Rdb.ofF hc1) (oCs1_len o)) rfl ?_ 
        refine oE (ev_alloc (cs := zOne) rfl) rfl ?_ 
        rintro _ _ _ _ ⟨rfl, b12, rfl, rfl⟩ 
        refine oN (ev_store rfl rfl .agg rfl (oCs1_len o) (lay_all (zs := zOne) (by rw [oCs1_len]; rfl)) (oCs1_ones o) .here) rfl ?_ 
        rintro _ _ _ _ ⟨rfl, _, rfl⟩ 
        obtain ⟨hlt4, hkpe⟩ := hkp 
        rw [hkpe] at hsn 
        dsimp only at hsn 
        rw [if_pos rfl, ← hkpe] at hsn 
        (repeat (first|refine zJ rfl rfl ?_|refine jr rfl ?_|refine jn ?_|refine zM rfl rfl ?_|(refine zC rfl rfl ?_ rfl ?_;omega)|(refine zD rfl rfl ?_ rfl ?_;omega)|(refine zP rfl ?_ rfl ?_;omega)|refine zG rfl rfl rfl rfl ?_|(refine jdq rfl rfl ?_ ?_ ?_;kernel_rfl;kernel_rfl)|refine zB rfl rfl rfl (by repeat constructor) rfl ?_|refine zH .here rfl rfl rfl rfl ?_|refine zH (.there .here) rfl rfl rfl rfl ?_|refine zH (.there (.there .here)) rfl rfl rfl rfl ?_)) 
        refine oS (ev_load_agg (cs := oCs1 o) rfl rfl (Rdb.ofB (n := 0) .here (by rw [List.drop_zero, List.take_length])) (oCs1_len o)) rfl ?_ 
        refine oA (size := 36) (bytes := 64) (vs := oCs1 o) (n := ((R.take j).filter kp).length) (xs := oCs ((R.take j).filter kp)) (fun _ => rfl) rfl .agg (oCs1_len o) elOne (oCs1_ones o) (by omega) (fun v' => .there .here) rfl (fun _ => rfl) fun u w => ?_ 
        (repeat (first|refine zJ rfl rfl ?_|refine jr rfl ?_|refine jn ?_|refine zM rfl rfl ?_|(refine zC rfl rfl ?_ rfl ?_;omega)|(refine zD rfl rfl ?_ rfl ?_;omega)|(refine zP rfl ?_ rfl ?_;omega)|refine zG rfl rfl rfl rfl ?_|(refine jdq rfl rfl ?_ ?_ ?_;kernel_rfl;kernel_rfl)|refine zB rfl rfl rfl (by repeat constructor) rfl ?_|refine zH .here rfl rfl rfl rfl ?_|refine zH (.there .here) rfl rfl rfl rfl ?_|refine zH (.there (.there .here)) rfl rfl rfl rfl ?_)) 
        exact J_again2 (j + 1) u hlt (by omega) ⟨⟨rfl, rfl, rfl, rfl, rfl, rfl, rfl, rfl, trivial⟩, fun w t => by rw [hsn, oCs_app, List.length_append, show oCs [o] = oCs1 o from by simp [oCs]]; exact t.drop⟩ 
      obtain rfl : j = R.length := by omega 
      rw [List.take_length] 
      have hfl := List.length_filter_le kp R 
      refine J_takeBack hA q1 ?_ 
      generalize PH.sub F2 hh = F3 at * 
      (repeat (first|refine zJ rfl rfl ?_|refine jr rfl ?_|refine jn ?_|refine zM rfl rfl ?_|(refine zC rfl rfl ?_ rfl ?_;omega)|(refine zD rfl rfl ?_ rfl ?_;omega)|(refine zP rfl ?_ rfl ?_;omega)|refine zG rfl rfl rfl rfl ?_|(refine jdq rfl rfl ?_ ?_ ?_;kernel_rfl;kernel_rfl)|refine zB rfl rfl rfl (by repeat constructor) rfl ?_|refine zH .here rfl rfl rfl rfl ?_|refine zH (.there .here) rfl rfl rfl rfl ?_|refine zH (.there (.there .here)) rfl rfl rfl rfl ?_)) 
      refine oS (ev_load_agg (cs := x.cs) rfl rfl (Rdb.ofB (n := 0) (.there (.there .here)) (by rw [List.drop_zero, List.take_length])) x.len) rfl ?_ 
      refine oS (ev_build (t := oCs1 (who, x)) (zs := zOne) rfl rfl rfl (one_build who x)) rfl ?_ 
      refine oA (size := 36) (bytes := 64) (vs := oCs1 (who, x)) (n := (R.filter kp).length) (xs := oCs (R.filter kp)) (fun _ => rfl) rfl .agg (oCs1_len (who, x)) elOne (oCs1_ones (who, x)) (by omega) (fun v' => .there .here) rfl (fun _ => rfl) fun u w => ?_ 
      refine oOwnA (.there .here) fun a3 c3 hu3 hnc3 _ _ _ => ?_ 
      subst hu3 
      (repeat (first|refine zJ rfl rfl ?_|refine jr rfl ?_|refine jn ?_|refine zM rfl rfl ?_|(refine zC rfl rfl ?_ rfl ?_;omega)|(refine zD rfl rfl ?_ rfl ?_;omega)|(refine zP rfl ?_ rfl ?_;omega)|refine zG rfl rfl rfl rfl ?_|(refine jdq rfl rfl ?_ ?_ ?_;kernel_rfl;kernel_rfl)|refine zB rfl rfl rfl (by repeat constructor) rfl ?_|refine zH .here rfl rfl rfl rfl ?_|refine zH (.there .here) rfl rfl rfl rfl ?_|refine zH (.there (.there .here)) rfl rfl rfl rfl ?_)) 
      refine oN (ev_store (vs := [.slice a3 ((R.filter kp).length + 1) c3]) (s := [.int .i64 n, .slice a3 ((R.filter kp).length + 1) c3]) rfl rfl .slice rfl rfl (.skip (.put .nil)) (ones_cons rfl ones_nil) .here) rfl ?_ 
      rintro _ _ _ _ ⟨rfl, _, rfl⟩ 
      (repeat (first|refine zJ rfl rfl ?_|refine jr rfl ?_|refine jn ?_|refine zM rfl rfl ?_|(refine zC rfl rfl ?_ rfl ?_;omega)|(refine zD rfl rfl ?_ rfl ?_;omega)|(refine zP rfl ?_ rfl ?_;omega)|refine zG rfl rfl rfl rfl ?_|(refine jdq rfl rfl ?_ ?_ ?_;kernel_rfl;kernel_rfl)|refine zB rfl rfl rfl (by repeat constructor) rfl ?_|refine zH .here rfl rfl rfl rfl ?_|refine zH (.there .here) rfl rfl rfl rfl ?_|refine zH (.there (.there .here)) rfl rfl rfl rfl ?_)) 
      refine J_pick (.there .here) ?_ 
      refine J_persist fun hh2 hA2 hdj2 => ?_ 
      have hnew : OR (F3.un hh2) (.slice a3 ((R.filter kp).length + 1) c3) (R.filter kp ++ [(who, x)]) := by 
        have h9 := own_slice hA2 hdj2 
        rw [show oCs1 (who, x) = oCs [(who, x)] from by simp [oCs], ← oCs_app] at h9 
        unfold OR 
        rw [List.length_append] 
        exact h9 
      refine J_retv rfl (.tmp rfl .nil) [_] (fun w s => Sat.drop2 s) (q2.trans (PH.le_l _ _)) ⟨_, _, _, rfl, ?_, rfl, hnew⟩ 
      obtain ⟨hlt4, hkpe⟩ := hkp 
      rw [hkpe, List.filter_eq_self.2 (fun _ _ => rfl)] 
      exact .new hin hall (by rw [how]; exact hlt4)
end Go.Proofs.Ytdoaloimndehbaa
