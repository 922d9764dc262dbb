/-
  A number as text, by the library's contract. Conditions are typed with each.
  The census's lines. Conditions are typed with each.
  A crowd as the census reads it; the law's calls with answers that the document fixes. Conditions are typed with each.
-/
import Derived.Test.YtmicjjhkoicdnaaDoorYc
import Derived.Shelf.LaysM
import Derived.Shelf.Strconv.Itoa3
import Derived.Lib.ItoaLen
namespace Go.Proofs.YtmicjjhkoicdnaaDoor
open Go.RowKit
open Go.Shelf
set_option maxRecDepth 100000
def laysM171_ren : Go.Shelf.Ren := ⟨fun | 171 => 30 | 243 => 37 | 246 => 42 | 283 => 46 | 284 => 47 | 285 => 48 | 286 => 49 | 129 => 51 | 317 => 50 | 318 => 52 | 319 => 53 | 320 => 54 | 337 => 55 | 338 => 56 | n => n, fun | 3 => 3 | 9 => 9 | 2 => 2 | 4 => 4 | 171 => 90 | 0 => 0 | 53 => 82 | 37 => 27 | 5 => 5 | 173 => 93 | 212 => 96 | 51 => 97 | 20 => 20 | 213 => 98 | 46 => 87 | 232 => 83 | 233 => 101 | n => n, fun | 17 => 0 | 18 => 1 | 19 => 2 | n => n⟩
theorem laysM171 : Go.Proofs.LaysM.n171 Tryd.prog laysM171_ren := {
  mixed := by kernel_rfl
  f129 := Tryd.func51.trans (congrArg some (by kernel_rfl))
  f171 := Tryd.func30.trans (congrArg some (by kernel_rfl))
  f243 := Tryd.func37.trans (congrArg some (by kernel_rfl))
  f246 := Tryd.func42.trans (congrArg some (by kernel_rfl))
  f283 := Tryd.func46.trans (congrArg some (by kernel_rfl))
  f284 := Tryd.func47.trans (congrArg some (by kernel_rfl))
  f285 := Tryd.func48.trans (congrArg some (by kernel_rfl))
  f286 := Tryd.func49.trans (congrArg some (by kernel_rfl))
  f317 := Tryd.func50.trans (congrArg some (by kernel_rfl))
  f318 := Tryd.func52.trans (congrArg some (by kernel_rfl))
  f319 := Tryd.func53.trans (congrArg some (by kernel_rfl))
  f320 := Tryd.func54.trans (congrArg some (by kernel_rfl))
  f337 := Tryd.func55.trans (congrArg some (by kernel_rfl))
  f338 := Tryd.func56.trans (congrArg some (by kernel_rfl))
  t0 := Tryd.underlying0
  a0 := Tryd.isAgg0
  z0 := Tryd.sizeOf0
  v0 := Tryd.zeroValue0
  t2 := Tryd.underlying2
  a2 := Tryd.isAgg2
  z2 := Tryd.sizeOf2
  v2 := Tryd.zeroValue2
  t3 := Tryd.underlying3
  a3 := Tryd.isAgg3
  z3 := Tryd.sizeOf3
  v3 := Tryd.zeroValue3
  t4 := Tryd.underlying4
  a4 := Tryd.isAgg4
  z4 := Tryd.sizeOf4
  v4 := Tryd.zeroValue4
  t5 := Tryd.underlying5
  a5 := Tryd.isAgg5
  z5 := Tryd.sizeOf5
  v5 := Tryd.zeroValue5
  t9 := Tryd.underlying9
  a9 := Tryd.isAgg9
  z9 := Tryd.sizeOf9
  v9 := Tryd.zeroValue9
  t20 := Tryd.underlying20
  a20 := Tryd.isAgg20
  z20 := Tryd.sizeOf20
  v20 := Tryd.zeroValue20
  t37 := Tryd.underlying27
  a37 := Tryd.isAgg27
  z37 := Tryd.sizeOf27
  v37 := Tryd.zeroValue27
  t46 := Tryd.underlying87
  a46 := Tryd.isAgg87
  z46 := Tryd.sizeOf87
  v46 := Tryd.zeroValue87
  t51 := Tryd.underlying97
  a51 := Tryd.isAgg97
  z51 := Tryd.sizeOf97
  v51 := Tryd.zeroValue97
  t53 := Tryd.underlying82
  a53 := Tryd.isAgg82
  z53 := Tryd.sizeOf82
  v53 := Tryd.zeroValue82
  t171 := Tryd.underlying90
  a171 := Tryd.isAgg90
  z171 := Tryd.sizeOf90
  v171 := Tryd.zeroValue90
  t173 := Tryd.underlying93
  a173 := Tryd.isAgg93
  z173 := Tryd.sizeOf93
  v173 := Tryd.zeroValue93
  t212 := Tryd.underlying96
  a212 := Tryd.isAgg96
  z212 := Tryd.sizeOf96
  v212 := Tryd.zeroValue96
  t213 := Tryd.underlying98
  a213 := Tryd.isAgg98
  z213 := Tryd.sizeOf98
  t232 := Tryd.underlying83
  a232 := Tryd.isAgg83
  z232 := Tryd.sizeOf83
  v232 := Tryd.zeroValue83
  t233 := Tryd.underlying101
  a233 := Tryd.isAgg101
  z233 := Tryd.sizeOf101
  v233 := Tryd.zeroValue101
  g17 := by kernel_rfl
  g18 := by kernel_rfl
  g19 := by kernel_rfl
  i0 := by kernel_rfl
  i2 := by kernel_rfl
  i3 := by kernel_rfl
  i4 := by kernel_rfl
  i5 := by kernel_rfl
  i9 := by kernel_rfl
  i20 := by kernel_rfl
  i37 := by kernel_rfl
  i46 := by kernel_rfl
  i51 := by kernel_rfl
  i53 := by kernel_rfl
  i171 := by kernel_rfl
  i173 := by kernel_rfl
  i212 := by kernel_rfl
  i232 := by kernel_rfl
  i233 := by kernel_rfl
  m17 := by kernel_rfl
  m18 := by kernel_rfl
  m19 := by kernel_rfl }
/-- The library's table stands. -/
def TabF (F : PH) : Prop := ∀ w, F.le (ph w) → Lib.TabIs Tryd.prog w (Rows.censusNamesRow.named.headD "") .u64 Lib.pow10Tab
theorem TabF.mono {F G : PH} (h : TabF F) (hl : F.le G) : TabF G := fun w hw => h w (hl.trans hw)
theorem itoa_spec (n : Int) (h0 : -9223372036854775808 ≤ n) (h1 : n ≤ 9223372036854775807) (F : PH) (ht : TabF F) : Pure Tryd.prog 30 [.int .i64 n] F (.string (strOf (Lib.itoa n))) := by
  unfold Pure
  unfold Spec
  intro X w hs
  refine (Any.strconv_Itoa laysM171 n h0 h1 w (ht w hs.le)).mono ?_
  rintro e w' ⟨rfl, k, os, rfl⟩
  have hp : (ph w).le (ph (Go.Sort.grow (w.drewN k) os)) := fun b o hb => by
    have h1 : w.heap[b]? = some o := hb
    have hlt := (Array.getElem?_eq_some_iff.1 h1).1
    show (w.heap ++ os)[b]? = some o
    rw [Array.getElem?_append_left hlt]
    exact h1
  exact ⟨_, F, [], rfl, PH.ler _, ⟨rfl, rfl⟩, ⟨rfl, rfl, rfl, by simp [Go.Sort.grow]⟩, hs.world hp⟩
end Go.Proofs.YtmicjjhkoicdnaaDoor
namespace Go.Proofs.YtmicjjhkoicdnaaDoor
open Go.RowKit
set_option maxRecDepth 100000
theorem ev_cat {P : Program} {l : Env} {F : PH} {H : List Asrt} {d : Option Nat} {T T' U : TypeId} {pos : String} {af : Array Edge} {g : Option (Nat × Bool)} {x y : Operand} {a b : List UInt8} (hx : opv l x = some (.string (strOf a))) (hy : opv l y = some (.string (strOf b))) (hl : a.length + b.length ≤ 1000000) :
    Ev P ⟨d, .binOp .add T x y T', U, pos, af, g⟩ l F H (.string (strOf (a ++ b))) := .of fun ρ hρ w _ => by
  have e1 := hρ _ _ hx; have e2 := hρ _ _ hy
  have h1 : ¬ (((strOf a).size + (strOf b).size : Nat) : Int) > IntKind.i64.max := by
    rw [strOf_size, strOf_size]
    have : (IntKind.i64.max) = 9223372036854775807 := rfl
    omega
  have h2 : strOf a ++ strOf b = strOf (a ++ b) := by
    apply ByteArray.ext
    simp [strOf]
  have h3 : (Op.stringOp .add (strOf a) (strOf b)).run P w = .ok (.string (strOf (a ++ b))) w := by
    unfold Op.stringOp
    dsimp only
    rw [if_neg h1, h2]
    rfl
  refine run_v2 ?_ ?_
  · rw [e1, e2]; simp [eqGuard, go_sem]
  · rw [e1, e2]; simp [binOp, h3]
theorem nmOf_len (k : Int) : (nmOf k).length ≤ 10 := by
  unfold nmOf
  split
  · decide
  · rename_i h
    obtain ⟨n, rfl, hn⟩ : ∃ n : Nat, k = n ∧ n < 13 := ⟨k.toNat, by omega, by omega⟩
    have : ∀ n : Fin 13, ((nmL[n.val]?).getD []).length ≤ 10 := by decide
    exact this ⟨n, hn⟩
/-- A kind's line. -/
def lineOf (xs : List SentX) (k : Nat) : List UInt8 := nmOf k ++ [32] ++ Lib.itoa ((kTot xs k).1 : Int) ++ [32] ++ Lib.itoa ((kTot xs k).2 : Int)
/-- The first j kinds' lines. -/
def lineS (xs : List SentX) : Nat → List (List UInt8)
  | 0 => []
  | j + 1 => if 0 < j ∧ 0 < (kTot xs j).1 then lineS xs j ++ [lineOf xs j] else lineS xs j
theorem lineS_len (xs : List SentX) : ∀ j, (lineS xs j).length ≤ j
  | 0 => Nat.le_refl _
  | j + 1 => by
    have := lineS_len xs j
    unfold lineS
    split
    · rw [List.length_append, List.length_singleton]; omega
    · omega
theorem elStr : Elem Tryd.prog 57 9 1 16 (.string (strOf [])) := ⟨rfl, ⟨_, rfl, rfl, rfl, rfl, rfl, by decide⟩, rfl, rfl⟩
set_option maxHeartbeats 8000000 in
theorem lines_spec (pc : Value) (HC : List Asrt) (xs : List SentX) (F : PH) (hC : Crw F pc HC xs) (hT : TabF F) (hall : ∀ x ∈ xs, x.size ≤ 40000) :
    Spec Tryd.prog 18 [pc] F HC fun u _ H' => H' = own u 9 1 (lineS xs 13).length (strC (lineS xs 13)) :: HC := by
  refine Spec.of1 Tryd.func18 rfl rfl fun X w0 => ?_
  repeat (first|refine zJ rfl rfl ?_|refine jr rfl ?_|refine jn ?_|refine zM rfl rfl ?_|(refine zC rfl rfl ?_ rfl ?_;omega)|(refine zD rfl rfl ?_ rfl ?_;omega)|(refine zP rfl ?_ rfl ?_;omega)|refine zG rfl rfl rfl rfl ?_|(refine jdq rfl rfl ?_ ?_ ?_;kernel_rfl;kernel_rfl)|refine zB rfl rfl rfl (by repeat constructor) rfl ?_|refine zH .here rfl rfl rfl rfl ?_|refine zH (.there .here) rfl rfl rfl rfl ?_|refine zH (.there (.there .here)) rfl rfl rfl rfl ?_|refine zH (.there (.there (.there .here))) rfl rfl rfl rfl ?_|refine zH (.there (.there (.there (.there .here)))) rfl rfl rfl rfl ?_)
  refine oC (Hc := HC) (Hr := X) (byKind_spec pc HC xs F hC) Tryd.call13 rfl rfl (fun _ s => s) ?_
  rintro _ F1 H1 hF1 ⟨rfl, rfl⟩
  repeat (first|refine zJ rfl rfl ?_|refine jr rfl ?_|refine jn ?_|refine zM rfl rfl ?_|(refine zC rfl rfl ?_ rfl ?_;omega)|(refine zD rfl rfl ?_ rfl ?_;omega)|(refine zP rfl ?_ rfl ?_;omega)|refine zG rfl rfl rfl rfl ?_|(refine jdq rfl rfl ?_ ?_ ?_;kernel_rfl;kernel_rfl)|refine zB rfl rfl rfl (by repeat constructor) rfl ?_|refine zH .here rfl rfl rfl rfl ?_|refine zH (.there .here) rfl rfl rfl rfl ?_|refine zH (.there (.there .here)) rfl rfl rfl rfl ?_|refine zH (.there (.there (.there .here))) rfl rfl rfl rfl ?_|refine zH (.there (.there (.there (.there .here)))) rfl rfl rfl rfl ?_)
  have hlen : (byK xs).length = 13 := by simp [byK]
  have hn := hC.n
  refine J_own_nil 9 1 ?_
  refine J_loop2 (fun (j : Nat) (u : Value) => j ≤ 13) (fun j _ => 13 - j) (fun j u => [(0, pc), (3, u), (7, .agg (rowC cvC (byK xs)).toArray), (8, .int .i64 j)]) (fun _ _ => F)
    (fun j u => own u 9 1 (lineS xs j).length (strC (lineS xs j)) :: (H1 ++ X)) 0 (.slice none 0 0) (Nat.zero_le _) ⟨⟨rfl, rfl, rfl, rfl, trivial⟩, fun w s => s.mono hF1⟩ ?_
  intro j u hj
  by_cases hlt : j < 13
  · have hx : (byK xs)[j]? = some (kTot xs j) := by unfold byK; rw [List.getElem?_map, List.getElem?_range hlt]; rfl
    have hrow := rowC_at cvC_len hx
    have hbd := tot_le (at_ kindK (j : Int)) xs hall
    have hnext : lineS xs (j + 1) = if 0 < j ∧ 0 < (kTot xs j).1 then lineS xs j ++ [lineOf xs j] else lineS xs j := rfl
    have hline : lineOf xs j = nmOf j ++ [32] ++ Lib.itoa ((kTot xs j).1 : Int) ++ [32] ++ Lib.itoa ((kTot xs j).2 : Int) := rfl
    have hll := lineS_len xs j
    change (kTot xs j).1 ≤ _ ∧ (kTot xs j).2 ≤ _ at hbd
    generalize hr : lineS xs (j + 1) = r' at hnext
    generalize lineS xs j = r at *
    generalize lineOf xs j = ln at *
    generalize kTot xs j = y at *
    obtain ⟨m, z⟩ := y
    dsimp only at *
    repeat (first|refine zJ rfl rfl ?_|refine jr rfl ?_|refine jn ?_|refine zM rfl rfl ?_|(refine zC rfl rfl ?_ rfl ?_;omega)|(refine zD rfl rfl ?_ rfl ?_;omega)|(refine zP rfl ?_ rfl ?_;omega)|refine zG rfl rfl rfl rfl ?_|(refine jdq rfl rfl ?_ ?_ ?_;kernel_rfl;kernel_rfl)|refine zB rfl rfl rfl (by repeat constructor) rfl ?_|refine zH .here rfl rfl rfl rfl ?_|refine zH (.there .here) rfl rfl rfl rfl ?_|refine zH (.there (.there .here)) rfl rfl rfl rfl ?_|refine zH (.there (.there (.there .here))) rfl rfl rfl rfl ?_|refine zH (.there (.there (.there (.there .here)))) rfl rfl rfl rfl ?_)
    refine oS (ev_index_n (i := j) rfl rfl rfl rfl hlt) rfl ?_
    rw [hrow]
    refine oE (ev_alloc rfl) rfl ?_
    rintro _ _ _ _ ⟨rfl, b5, rfl, rfl⟩
    repeat (first|refine zJ rfl rfl ?_|refine jr rfl ?_|refine jn ?_|refine zM rfl rfl ?_|(refine zC rfl rfl ?_ rfl ?_;omega)|(refine zD rfl rfl ?_ rfl ?_;omega)|(refine zP rfl ?_ rfl ?_;omega)|refine zG rfl rfl rfl rfl ?_|(refine jdq rfl rfl ?_ ?_ ?_;kernel_rfl;kernel_rfl)|refine zB rfl rfl rfl (by repeat constructor) rfl ?_|refine zH .here rfl rfl rfl rfl ?_|refine zH (.there .here) rfl rfl rfl rfl ?_|refine zH (.there (.there .here)) rfl rfl rfl rfl ?_|refine zH (.there (.there (.there .here))) rfl rfl rfl rfl ?_|refine zH (.there (.there (.there (.there .here)))) rfl rfl rfl rfl ?_)
    refine oN (ev_store (vs := cvC (m, z)) rfl rfl .agg rfl rfl (lay_all (zs := cvC (0, 0)) rfl) (ones_cvC _) .here) rfl ?_
    rintro _ _ _ _ ⟨rfl, _, rfl⟩
    unfold cvC
    dsimp only
    by_cases h1 : 0 < j
    · by_cases h2 : 0 < m
      · rw [if_pos ⟨h1, h2⟩] at hnext
        subst hnext
        repeat (first|refine zJ rfl rfl ?_|refine jr rfl ?_|refine jn ?_|refine zM rfl rfl ?_|(refine zC rfl rfl ?_ rfl ?_;omega)|(refine zD rfl rfl ?_ rfl ?_;omega)|(refine zP rfl ?_ rfl ?_;omega)|refine zG rfl rfl rfl rfl ?_|(refine jdq rfl rfl ?_ ?_ ?_;kernel_rfl;kernel_rfl)|refine zB rfl rfl rfl (by repeat constructor) rfl ?_|refine zH .here rfl rfl rfl rfl ?_|refine zH (.there .here) rfl rfl rfl rfl ?_|refine zH (.there (.there .here)) rfl rfl rfl rfl ?_|refine zH (.there (.there (.there .here))) rfl rfl rfl rfl ?_|refine zH (.there (.there (.there (.there .here)))) rfl rfl rfl rfl ?_)
        refine ja PH.emp [] ?_ (fun w s => s.any) ?_; kernel_rfl
        refine aT 0 rfl (ev_pv rfl) rfl rfl ?_ ?_ ?_ ?_; kernel_rfl; kernel_rfl; kernel_rfl
        refine aL (fun o => (o.take 13).tail) [13, 14, 15] [1, 2, 3, 4, 5, 6, 7, 8, 9, 10, 11, 12] 3 rfl ?_ ?_ ?_ ?_ ?_ ?_; kernel_rfl; kernel_rfl; kernel_rfl; kernel_rfl; kernel_rfl
        dsimp only [List.take, List.tail]
        repeat (first|refine zJ rfl rfl ?_|refine jr rfl ?_|refine jn ?_|refine zM rfl rfl ?_|(refine zC rfl rfl ?_ rfl ?_;omega)|(refine zD rfl rfl ?_ rfl ?_;omega)|(refine zP rfl ?_ rfl ?_;omega)|refine zG rfl rfl rfl rfl ?_|(refine jdq rfl rfl ?_ ?_ ?_;kernel_rfl;kernel_rfl)|refine zB rfl rfl rfl (by repeat constructor) rfl ?_|refine zH .here rfl rfl rfl rfl ?_|refine zH (.there .here) rfl rfl rfl rfl ?_|refine zH (.there (.there .here)) rfl rfl rfl rfl ?_|refine zH (.there (.there (.there .here))) rfl rfl rfl rfl ?_|refine zH (.there (.there (.there (.there .here)))) rfl rfl rfl rfl ?_)
        refine oP (Name_spec j F) Tryd.call7 rfl rfl ?_
        repeat (first|refine zJ rfl rfl ?_|refine jr rfl ?_|refine jn ?_|refine zM rfl rfl ?_|(refine zC rfl rfl ?_ rfl ?_;omega)|(refine zD rfl rfl ?_ rfl ?_;omega)|(refine zP rfl ?_ rfl ?_;omega)|refine zG rfl rfl rfl rfl ?_|(refine jdq rfl rfl ?_ ?_ ?_;kernel_rfl;kernel_rfl)|refine zB rfl rfl rfl (by repeat constructor) rfl ?_|refine zH .here rfl rfl rfl rfl ?_|refine zH (.there .here) rfl rfl rfl rfl ?_|refine zH (.there (.there .here)) rfl rfl rfl rfl ?_|refine zH (.there (.there (.there .here))) rfl rfl rfl rfl ?_|refine zH (.there (.there (.there (.there .here)))) rfl rfl rfl rfl ?_)
        have hn1 := nmOf_len j
        have hm1 := Lib.itoa_length_le (m : Int) (by omega) (by omega)
        have hz1 := Lib.itoa_length_le (z : Int) (by omega) (by omega)
        refine oS (ev_cat (b := [32]) rfl rfl (by simp; omega)) rfl ?_
        repeat (first|refine zJ rfl rfl ?_|refine jr rfl ?_|refine jn ?_|refine zM rfl rfl ?_|(refine zC rfl rfl ?_ rfl ?_;omega)|(refine zD rfl rfl ?_ rfl ?_;omega)|(refine zP rfl ?_ rfl ?_;omega)|refine zG rfl rfl rfl rfl ?_|(refine jdq rfl rfl ?_ ?_ ?_;kernel_rfl;kernel_rfl)|refine zB rfl rfl rfl (by repeat constructor) rfl ?_|refine zH .here rfl rfl rfl rfl ?_|refine zH (.there .here) rfl rfl rfl rfl ?_|refine zH (.there (.there .here)) rfl rfl rfl rfl ?_|refine zH (.there (.there (.there .here))) rfl rfl rfl rfl ?_|refine zH (.there (.there (.there (.there .here)))) rfl rfl rfl rfl ?_)
        refine oP (itoa_spec m (by omega) (by omega) F hT) Tryd.call30 rfl rfl ?_
        refine oS (ev_cat rfl rfl (by simp; omega)) rfl ?_
        refine oS (ev_cat (b := [32]) rfl rfl (by simp; omega)) rfl ?_
        repeat (first|refine zJ rfl rfl ?_|refine jr rfl ?_|refine jn ?_|refine zM rfl rfl ?_|(refine zC rfl rfl ?_ rfl ?_;omega)|(refine zD rfl rfl ?_ rfl ?_;omega)|(refine zP rfl ?_ rfl ?_;omega)|refine zG rfl rfl rfl rfl ?_|(refine jdq rfl rfl ?_ ?_ ?_;kernel_rfl;kernel_rfl)|refine zB rfl rfl rfl (by repeat constructor) rfl ?_|refine zH .here rfl rfl rfl rfl ?_|refine zH (.there .here) rfl rfl rfl rfl ?_|refine zH (.there (.there .here)) rfl rfl rfl rfl ?_|refine zH (.there (.there (.there .here))) rfl rfl rfl rfl ?_|refine zH (.there (.there (.there (.there .here)))) rfl rfl rfl rfl ?_)
        refine oP (itoa_spec z (by omega) (by omega) F hT) Tryd.call30 rfl rfl ?_
        refine oS (ev_cat rfl rfl (by simp; omega)) rfl ?_
        rw [← hline]
        refine jn ?_
        refine aR ?_
        refine aB (i := 13) (by kernel_rfl) (aE rfl (ev_one rfl .string rfl elStr) rfl rfl (fun _ _ _ _ _ w s => s.any) ?_)
        rintro _ _ _ _ ⟨rfl, bt, rfl, rfl⟩
        refine aB (i := 14) (by kernel_rfl) (aE rfl (ev_append (m := 1) (c := 1) (b := bt) (off := 0) (K := fun v' => blk bt 9 [.string (strOf ln)] :: blk b5 38 [.int .i64 m, .int .i64 z] :: own v' 9 1 (r.length + 1) (strC r ++ [.string (strOf ln)]) :: (H1 ++ X)) rfl rfl elStr (Rdb.ofB (n := 0) .here rfl) rfl (ones_cons rfl ones_nil) (by omega) (by unfold maxLen; omega) (fun v' => .there (.there .here))) rfl rfl (fun _ _ _ _ _ w s => s.any) ?_)
        rintro u' _ _ _ ⟨rfl, _, rfl⟩
        refine aT 15 rfl (ev_pv rfl) rfl rfl ?_ ?_ ?_ ?_; kernel_rfl; kernel_rfl; kernel_rfl
        refine aD (by kernel_rfl) ?_
        repeat (first|refine zJ rfl rfl ?_|refine jr rfl ?_|refine jn ?_|refine zM rfl rfl ?_|(refine zC rfl rfl ?_ rfl ?_;omega)|(refine zD rfl rfl ?_ rfl ?_;omega)|(refine zP rfl ?_ rfl ?_;omega)|refine zG rfl rfl rfl rfl ?_|(refine jdq rfl rfl ?_ ?_ ?_;kernel_rfl;kernel_rfl)|refine zB rfl rfl rfl (by repeat constructor) rfl ?_|refine zH .here rfl rfl rfl rfl ?_|refine zH (.there .here) rfl rfl rfl rfl ?_|refine zH (.there (.there .here)) rfl rfl rfl rfl ?_|refine zH (.there (.there (.there .here))) rfl rfl rfl rfl ?_|refine zH (.there (.there (.there (.there .here)))) rfl rfl rfl rfl ?_)
        have e : strC r ++ [.string (strOf ln)] = strC (r ++ [ln]) := by simp [strC]
        have el : (r ++ [ln]).length = r.length + 1 := by simp
        refine J_again2 (j + 1) u' (by omega) (by omega) ?_
        rw [hr, ← e, el]
        exact ⟨⟨rfl, rfl, rfl, rfl, trivial⟩, fun w s => s.drop.drop⟩
      · rw [if_neg (by omega)] at hnext
        subst hnext
        repeat (first|refine zJ rfl rfl ?_|refine jr rfl ?_|refine jn ?_|refine zM rfl rfl ?_|(refine zC rfl rfl ?_ rfl ?_;omega)|(refine zD rfl rfl ?_ rfl ?_;omega)|(refine zP rfl ?_ rfl ?_;omega)|refine zG rfl rfl rfl rfl ?_|(refine jdq rfl rfl ?_ ?_ ?_;kernel_rfl;kernel_rfl)|refine zB rfl rfl rfl (by repeat constructor) rfl ?_|refine zH .here rfl rfl rfl rfl ?_|refine zH (.there .here) rfl rfl rfl rfl ?_|refine zH (.there (.there .here)) rfl rfl rfl rfl ?_|refine zH (.there (.there (.there .here))) rfl rfl rfl rfl ?_|refine zH (.there (.there (.there (.there .here)))) rfl rfl rfl rfl ?_)
        exact J_again2 (j + 1) u (by omega) (by omega) (by rw [hr]; exact ⟨⟨rfl, rfl, rfl, rfl, trivial⟩, fun w s => s.drop⟩)
    · rw [if_neg (by omega)] at hnext
      subst hnext
      repeat (first|refine zJ rfl rfl ?_|refine jr rfl ?_|refine jn ?_|refine zM rfl rfl ?_|(refine zC rfl rfl ?_ rfl ?_;omega)|(refine zD rfl rfl ?_ rfl ?_;omega)|(refine zP rfl ?_ rfl ?_;omega)|refine zG rfl rfl rfl rfl ?_|(refine jdq rfl rfl ?_ ?_ ?_;kernel_rfl;kernel_rfl)|refine zB rfl rfl rfl (by repeat constructor) rfl ?_|refine zH .here rfl rfl rfl rfl ?_|refine zH (.there .here) rfl rfl rfl rfl ?_|refine zH (.there (.there .here)) rfl rfl rfl rfl ?_|refine zH (.there (.there (.there .here))) rfl rfl rfl rfl ?_|refine zH (.there (.there (.there (.there .here)))) rfl rfl rfl rfl ?_)
      exact J_again2 (j + 1) u (by omega) (by omega) (by rw [hr]; exact ⟨⟨rfl, rfl, rfl, rfl, trivial⟩, fun w s => s.drop⟩)
  · obtain rfl : j = 13 := by omega
    repeat (first|refine zJ rfl rfl ?_|refine jr rfl ?_|refine jn ?_|refine zM rfl rfl ?_|(refine zC rfl rfl ?_ rfl ?_;omega)|(refine zD rfl rfl ?_ rfl ?_;omega)|(refine zP rfl ?_ rfl ?_;omega)|refine zG rfl rfl rfl rfl ?_|(refine jdq rfl rfl ?_ ?_ ?_;kernel_rfl;kernel_rfl)|refine zB rfl rfl rfl (by repeat constructor) rfl ?_|refine zH .here rfl rfl rfl rfl ?_|refine zH (.there .here) rfl rfl rfl rfl ?_|refine zH (.there (.there .here)) rfl rfl rfl rfl ?_|refine zH (.there (.there (.there .here))) rfl rfl rfl rfl ?_|refine zH (.there (.there (.there (.there .here)))) rfl rfl rfl rfl ?_)
    exact J_ret1 rfl rfl (own u 9 1 (lineS xs 13).length (strC (lineS xs 13)) :: H1) rfl (PH.ler _) rfl
end Go.Proofs.YtmicjjhkoicdnaaDoor
namespace Go.Proofs.YtmicjjhkoicdnaaDoor
open Go.RowKit
set_option maxRecDepth 100000
set_option maxHeartbeats 1000000 in
theorem lenC_spec (b n : Nat) (v : Value) (os : List Value) (F : PH) :
    Spec Tryd.prog 32 [.pointer (some ⟨b, 0, none⟩)] F (crowd b v n os) fun u _ H' => u = .int .i64 n ∧ H' = crowd b v n os := by
  refine Spec.of1 Tryd.func32 rfl rfl fun X w0 => ?_
  show J _ _ _ _ (blk b 66 [v] :: own v 49 6 n os :: X)
  refine jOwn (.there .here) fun a c hv _ _ _ => ?_
  subst hv
  repeat (first | refine jc rfl rfl ?_ | refine jr rfl ?_ | refine jn ?_ | refine oM rfl rfl ?_ | refine oS (ev_pv rfl) rfl ?_ | refine oX rfl ?_ | refine J_cond_t rfl ?_ | refine J_cond_f rfl ?_ | refine oS (eb rfl) rfl ?_ | (refine oS (ev_cmp_t rfl rfl ?_) rfl ?_; (dsimp only [cmpP] <;> omega)) | (refine oS (ev_cmp_f rfl rfl ?_) rfl ?_; (dsimp only [cmpN] <;> omega)) | (refine oS (ea rfl rfl rfl ?_) rfl ?_; (dsimp only [InK]; first | omega | exact ⟨Int.natCast_nonneg _, by omega⟩)) | (refine oS (ed rfl rfl rfl ?_ ?_ ?_) rfl ?_; (first | omega | exact Int.natCast_nonneg _); (first | omega | exact Int.natCast_nonneg _); (dsimp only [InK]; first | omega | exact ⟨Int.natCast_nonneg _, by omega⟩)) | refine oS (ev_fieldAddr rfl rfl) rfl ?_ | (refine oS (ev_conv rfl rfl rfl (wrap_in ?_)) rfl ?_; (dsimp only [InK]; first | omega | exact ⟨Int.natCast_nonneg _, by omega⟩)) | refine oS (ev_bool_eql rfl rfl rfl) rfl ?_ | refine oS (eg rfl rfl rfl) rfl ?_ | (refine jdq rfl rfl ?_ ?_ ?_; kernel_rfl; kernel_rfl) | (refine oS (ev_build (t := ?_) rfl rfl rfl ?_) rfl ?_; rotate_left; (repeat (first | exact FillF.nil | refine FillF.cons (by constructor) rfl rfl (by repeat constructor) ?_))) | refine oS (ev_ptr_eql_nil rfl rfl rfl) rfl ?_)
  refine oS (ev_load rfl rfl (Rdb.ofB (n := 0) .here rfl)) rfl ?_
  repeat (first | refine jc rfl rfl ?_ | refine jr rfl ?_ | refine jn ?_ | refine oM rfl rfl ?_ | refine oS (ev_pv rfl) rfl ?_ | refine oX rfl ?_ | refine J_cond_t rfl ?_ | refine J_cond_f rfl ?_ | refine oS (eb rfl) rfl ?_ | (refine oS (ev_cmp_t rfl rfl ?_) rfl ?_; (dsimp only [cmpP] <;> omega)) | (refine oS (ev_cmp_f rfl rfl ?_) rfl ?_; (dsimp only [cmpN] <;> omega)) | (refine oS (ea rfl rfl rfl ?_) rfl ?_; (dsimp only [InK]; first | omega | exact ⟨Int.natCast_nonneg _, by omega⟩)) | (refine oS (ed rfl rfl rfl ?_ ?_ ?_) rfl ?_; (first | omega | exact Int.natCast_nonneg _); (first | omega | exact Int.natCast_nonneg _); (dsimp only [InK]; first | omega | exact ⟨Int.natCast_nonneg _, by omega⟩)) | refine oS (ev_fieldAddr rfl rfl) rfl ?_ | (refine oS (ev_conv rfl rfl rfl (wrap_in ?_)) rfl ?_; (dsimp only [InK]; first | omega | exact ⟨Int.natCast_nonneg _, by omega⟩)) | refine oS (ev_bool_eql rfl rfl rfl) rfl ?_ | refine oS (eg rfl rfl rfl) rfl ?_ | (refine jdq rfl rfl ?_ ?_ ?_; kernel_rfl; kernel_rfl) | (refine oS (ev_build (t := ?_) rfl rfl rfl ?_) rfl ?_; rotate_left; (repeat (first | exact FillF.nil | refine FillF.cons (by constructor) rfl rfl (by repeat constructor) ?_))) | refine oS (ev_ptr_eql_nil rfl rfl rfl) rfl ?_)
  exact J_ret1 rfl rfl (crowd b (.slice a n c) n os) rfl (PH.ler _) ⟨rfl, rfl⟩
theorem flat6 {rows : List (List Value)} (h6 : ∀ r ∈ rows, r.length = 6) {i : Nat} {r : List Value} (h : rows[i]? = some r) : (rows.flatten.drop (i * 6)).take 6 = r := flat_at h6 h
/-- A crowd whose row holds what was sent. -/
theorem Crw.of {F : PH} {b : Nat} {v : Value} {xs : List SentX} {rows : List (List Value)} (hn : xs.length ≤ 16384) (hl : rows.length = xs.length) (h : ∀ (i : Nat) (x : SentX) (r : List Value), xs[i]? = some x → rows[i]? = some r → SentOk F x r) :
    Crw F (.pointer (some ⟨b, 0, none⟩)) (crowd b v xs.length rows.flatten) xs where
  n := hn
  len := lenC_spec b xs.length v rows.flatten F
  at_ := fun i x hx => by
    have hlt := (List.getElem?_eq_some_iff.1 hx).1
    have hr : rows[i]? = some rows[i] := List.getElem?_eq_getElem (by omega)
    have hok := h i x _ hx hr
    have h6 : ∀ r ∈ rows, r.length = 6 := fun r hm => by
      obtain ⟨j, hj⟩ := List.mem_iff_getElem?.1 hm
      have hjl := (List.getElem?_eq_some_iff.1 hj).1
      exact (h j _ r (List.getElem?_eq_getElem (by omega)) hj).len
    exact ⟨_, hok, (at_yes b xs.length i v rows.flatten _ hlt hn (flat6 h6 hr) hok.len hok.ones F).mono fun u F' H' _ ⟨_, e1, e2⟩ => ⟨e1, e2⟩⟩
def zPar : List Value := [.int .i64 0, .int .i64 0, .int .i64 0, .slice none 0 0, .slice none 0 0]
theorem elPar : Elem Tryd.prog 36 35 5 72 (.agg zPar.toArray) := ⟨rfl, ⟨_, rfl, rfl, rfl, rfl, rfl, by decide⟩, rfl, rfl⟩
def parC (to kind from_ : Int) (vb vt : Value) : List Value := [.int .i64 to, .int .i64 kind, .int .i64 from_, vb, vt]
def xs43 : List SentX := [⟨1, 2, 4, 0, [], []⟩, ⟨1, 3, 4, 0, [120], []⟩]
theorem most43 : mostS xs43 13 = (4, (2, 17)) := by decide +kernel
theorem itoa2 : Lib.itoa 2 = [50] := by simp [Lib.itoa, Lib.decDigits]
theorem itoa17 : Lib.itoa 17 = [49, 55] := by simp [Lib.itoa, Lib.decDigits]
theorem kTot43 : (List.range 13).map (kTot xs43) = [(0, 0), (0, 0), (0, 0), (0, 0), (2, 17), (0, 0), (0, 0), (0, 0), (0, 0), (0, 0), (0, 0), (0, 0), (0, 0)] := by decide +kernel
theorem lines43 : lineS xs43 13 = [[112, 114, 101, 112, 97, 114, 101, 32, 50, 32, 49, 55]] := by
  have e : ∀ k, k < 13 → kTot xs43 k = if k = 4 then (2, 17) else (0, 0) := by
    intro k hk
    have h1 : ((List.range 13).map (kTot xs43))[k]? = some (kTot xs43 k) := by rw [List.getElem?_map, List.getElem?_range hk]; rfl
    rw [kTot43] at h1
    have : ∀ k : Fin 13, ([(0, 0), (0, 0), (0, 0), (0, 0), (2, 17), (0, 0), (0, 0), (0, 0), (0, 0), (0, 0), (0, 0), (0, 0), (0, 0)] : List (Nat × Nat))[k.val]? = some (if k.val = 4 then (2, 17) else (0, 0)) := by decide
    have h2 := this ⟨k, hk⟩
    dsimp only at h2
    rw [h2] at h1
    exact (Option.some.inj h1).symm
  have hl : lineOf xs43 4 = [112, 114, 101, 112, 97, 114, 101, 32, 50, 32, 49, 55] := by
    unfold lineOf
    rw [e 4 (by decide), if_pos rfl]
    dsimp only
    rw [show ((2 : Nat) : Int) = 2 from rfl, show ((17 : Nat) : Int) = 17 from rfl, itoa2, itoa17]
    decide
  simp only [lineS, e 0 (by decide), e 1 (by decide), e 2 (by decide), e 3 (by decide), e 4 (by decide), e 5 (by decide), e 6 (by decide), e 7 (by decide), e 8 (by decide), e 9 (by decide), e 10 (by decide), e 11 (by decide), e 12 (by decide), hl]
  rfl
theorem ev_strT {P : Program} {l : Env} {F : PH} {H : List Asrt} {d : Option Nat} {T T' U : TypeId} {pos : String} {af : Array Edge} {g : Option (Nat × Bool)} {x y : Operand} {s t : ByteArray} (hx : opv l x = some (.string s)) (hy : opv l y = some (.string t)) (h : s = t) : Ev P ⟨d, .binOp .eql T x y T', U, pos, af, g⟩ l F H (.bool true) := by
  have := ev_str_eql (P := P) (F := F) (H := H) (d := d) (T := T) (T' := T') (U := U) (pos := pos) (af := af) (g := g) hx hy
  rwa [decide_eq_true (show s.toList = t.toList from by rw [h])] at this
theorem cv_eqC (m n m' n' : Nat) : EqC Tryd.prog 9999 0 (cvC (m, n)) (cvC (m', n')) (Tryd.prog.fieldsOf 38).toList (decide ((m : Int) = m') && (decide ((n : Int) = n') && true)) :=
  .int (by decide) rfl Tryd.underlying3 (.int (by decide) rfl Tryd.underlying3 .nil)
theorem ev_cv_eql {l : Env} {F : PH} {H : List Asrt} {d : Option Nat} {U : TypeId} {pos : String} {af : Array Edge} {g : Option (Nat × Bool)} {x y : Operand} {T' : TypeId} {p q : Nat × Nat} {r : Bool} (hx : opv l x = some (.agg (cvC p).toArray)) (hy : opv l y = some (.agg (cvC q).toArray)) (hr : decide (p = q) = r) :
    Ev Tryd.prog ⟨d, .binOp .eql 38 x y T', U, pos, af, g⟩ l F H (.bool r) := by
  obtain ⟨m, n⟩ := p
  obtain ⟨m', n'⟩ := q
  have h := ev_st_eql (P := Tryd.prog) (F := F) (H := H) (d := d) (T' := T') (U := U) (pos := pos) (gd := g) (af := af) hx hy (by kernel_rfl) (by kernel_rfl) (by kernel_rfl) (cv_eqC m n m' n')
  have e : (decide ((m : Int) = m') && (decide ((n : Int) = n') && true)) = r := by
    rw [← hr, Bool.and_true, ← Bool.decide_and]
    refine decide_eq_decide.2 ?_
    rw [Prod.mk.injEq]
    omega
  rwa [e] at h
set_option maxHeartbeats 8000000 in
theorem fixed43 (F : PH) (hT : TabF F) : Pure Tryd.prog 6 [] F (.bool true) := by
  refine Spec.of0 Tryd.func6 rfl fun X w0 => ?_
  repeat (first|refine zJ rfl rfl ?_|refine jr rfl ?_|refine jn ?_|refine zM rfl rfl ?_|(refine zC rfl rfl ?_ rfl ?_;omega)|(refine zD rfl rfl ?_ rfl ?_;omega)|(refine zP rfl ?_ rfl ?_;omega)|refine zG rfl rfl rfl rfl ?_|(refine jdq rfl rfl ?_ ?_ ?_;kernel_rfl;kernel_rfl)|refine zB rfl rfl rfl (by repeat constructor) rfl ?_|refine zH .here rfl rfl rfl rfl ?_|refine zH (.there .here) rfl rfl rfl rfl ?_|refine zH (.there (.there .here)) rfl rfl rfl rfl ?_|refine zH (.there (.there (.there .here))) rfl rfl rfl rfl ?_|refine zH (.there (.there (.there (.there .here)))) rfl rfl rfl rfl ?_)
  refine oC (Hc := []) (Hr := X) (new_spec F) Tryd.call10 rfl rfl (fun w s => s) ?_
  rintro _ _ _ _ ⟨rfl, b, rfl, rfl⟩
  repeat (first|refine zJ rfl rfl ?_|refine jr rfl ?_|refine jn ?_|refine zM rfl rfl ?_|(refine zC rfl rfl ?_ rfl ?_;omega)|(refine zD rfl rfl ?_ rfl ?_;omega)|(refine zP rfl ?_ rfl ?_;omega)|refine zG rfl rfl rfl rfl ?_|(refine jdq rfl rfl ?_ ?_ ?_;kernel_rfl;kernel_rfl)|refine zB rfl rfl rfl (by repeat constructor) rfl ?_|refine zH .here rfl rfl rfl rfl ?_|refine zH (.there .here) rfl rfl rfl rfl ?_|refine zH (.there (.there .here)) rfl rfl rfl rfl ?_|refine zH (.there (.there (.there .here))) rfl rfl rfl rfl ?_|refine zH (.there (.there (.there (.there .here)))) rfl rfl rfl rfl ?_)
  refine oE (ev_buildSlice (E := 5) (zs := [.int .u8 0]) (t := [.int .u8 120]) rfl rfl rfl rfl rfl rfl (.cons .int rfl (by repeat constructor) .nil)) rfl ?_
  rintro _ _ _ _ ⟨rfl, bx, rfl, rfl⟩
  refine oE (ev_bytes_bytes rfl Tryd.underlying27 Tryd.underlying5 .here) rfl ?_
  rintro _ F0 _ hF0 ⟨rfl, hcx, rfl⟩
  repeat (first|refine zJ rfl rfl ?_|refine jr rfl ?_|refine jn ?_|refine zM rfl rfl ?_|(refine zC rfl rfl ?_ rfl ?_;omega)|(refine zD rfl rfl ?_ rfl ?_;omega)|(refine zP rfl ?_ rfl ?_;omega)|refine zG rfl rfl rfl rfl ?_|(refine jdq rfl rfl ?_ ?_ ?_;kernel_rfl;kernel_rfl)|refine zB rfl rfl rfl (by repeat constructor) rfl ?_|refine zH .here rfl rfl rfl rfl ?_|refine zH (.there .here) rfl rfl rfl rfl ?_|refine zH (.there (.there .here)) rfl rfl rfl rfl ?_|refine zH (.there (.there (.there .here))) rfl rfl rfl rfl ?_|refine zH (.there (.there (.there (.there .here)))) rfl rfl rfl rfl ?_)
  refine oE (ev_buildSlice (E := 35) (zs := [.int .i64 0, .int .i64 0, .int .i64 0, .slice none 0 0, .slice none 0 0]) (r := [.int .i64 0, .int .i64 0, .int .i64 0, .slice none 0 0, .slice none 0 0, .int .i64 0, .int .i64 0, .int .i64 0, .slice none 0 0, .slice none 0 0]) (t := [.int .i64 2, .int .i64 4, .int .i64 0, .slice none 0 0, .slice none 0 0, .int .i64 3, .int .i64 4, .int .i64 0, .slice (some ⟨bx, 0, none⟩) 1 1, .slice none 0 0]) rfl rfl rfl rfl rfl rfl ?_) rfl ?_
  · exact .cons .agg rfl (by repeat constructor) (.cons .agg rfl (by repeat constructor) .nil)
  rintro _ _ _ _ ⟨rfl, bl, rfl, rfl⟩
  refine oPersist fun h2 ho2 hd2 => ?_
  have hc := blk_cells ho2 hd2
  have hF1 : F0.le (F0.un h2) := PH.le_l _ _
  generalize F0.un h2 = F1 at hc hF1
  have hsl : SliceV F1 5 (.slice (some ⟨bl, 0, none⟩) 2 2) 2 [parC 2 4 0 (.slice none 0 0) (.slice none 0 0), parC 3 4 0 (.slice (some ⟨bx, 0, none⟩) 1 1) (.slice none 0 0)].flatten := ⟨rfl, _, 2, rfl, Nat.le_refl _, fun _ => ⟨bl, 0, rfl, hc⟩⟩
  have hbx : Byt F1 (.slice (some ⟨bx, 0, none⟩) 1 1) [120] := ⟨rfl, _, 1, rfl, Nat.le_refl _, fun _ => ⟨bx, 0, rfl, hcx.mono hF1⟩⟩
  refine oC (Hc := crowd b (.slice none 0 0) 0 []) (Hr := X) (cput_spec b 2 0 2 1 _ _ [] [parC 2 4 0 (.slice none 0 0) (.slice none 0 0), parC 3 4 0 (.slice (some ⟨bx, 0, none⟩) 1 1) (.slice none 0 0)] F1 (by intro c hc; simp at hc; rcases hc with rfl | rfl <;> exact ⟨rfl, by unfold parC; (repeat (first | exact ones_nil | refine ones_cons rfl ?_))⟩) hsl rfl (by omega) (by omega)) Tryd.call11 rfl rfl (fun w s => s) ?_
  rintro _ _ _ _ ⟨rfl, v1, rfl, rfl⟩
  have hC : Crw F1 (.pointer (some ⟨b, 0, none⟩)) (crowd b v1 2 [[.int .i64 1, .int .i64 2, .int .i64 4, .int .i64 0, .slice none 0 0, .slice none 0 0], [.int .i64 1, .int .i64 3, .int .i64 4, .int .i64 0, .slice (some ⟨bx, 0, none⟩) 1 1, .slice none 0 0]].flatten) xs43 := by
    refine Crw.of (xs := xs43) (by decide) rfl fun i x r hx hr => ?_
    match i, hx, hr with
    | 0, hx, hr => cases hx; cases hr; exact ⟨_, _, rfl, SliceV.nil F1 1, Tags.nil F1, by decide, by decide⟩
    | 1, hx, hr => cases hx; cases hr; exact ⟨_, _, rfl, hbx, Tags.nil F1, by decide, by decide⟩
    | n + 2, hx, hr => cases hx
  refine oW (F' := F1) (H' := crowd b v1 2 [[.int .i64 1, .int .i64 2, .int .i64 4, .int .i64 0, .slice none 0 0, .slice none 0 0], [.int .i64 1, .int .i64 3, .int .i64 4, .int .i64 0, .slice (some ⟨bx, 0, none⟩) 1 1, .slice none 0 0]].flatten ++ X) ?_ (fun w s => s)
  have hT1 := (hT.mono hF0).mono hF1
  generalize hH : crowd b v1 2 [[.int .i64 1, .int .i64 2, .int .i64 4, .int .i64 0, .slice none 0 0, .slice none 0 0], [.int .i64 1, .int .i64 3, .int .i64 4, .int .i64 0, .slice (some ⟨bx, 0, none⟩) 1 1, .slice none 0 0]].flatten = HC at *
  have hm : Spec Tryd.prog 12 [.pointer (some ⟨b, 0, none⟩)] F1 HC fun u _ H' => u = .tuple #[.int .i64 4, .agg (cvC (2, 17)).toArray] ∧ H' = HC := by
    have hm := most_spec (.pointer (some ⟨b, 0, none⟩)) HC xs43 F1 hC
    rw [most43] at hm
    exact hm
  have hk : Spec Tryd.prog 8 [.string (strOf [97, 99, 107])] F1 [] fun u _ H' => u = .tuple #[.int .i64 8, .bool true] ∧ H' = [] := by
    have hk := Kind_spec [97, 99, 107] F1
    rw [show kindOf [97, 99, 107] = 7 from by decide] at hk
    exact hk
  have hli := lines_spec (.pointer (some ⟨b, 0, none⟩)) HC xs43 F1 hC hT1 (by decide)
  rw [lines43] at hli
  repeat (first|refine zJ rfl rfl ?_|refine jr rfl ?_|refine jn ?_|refine zM rfl rfl ?_|(refine zC rfl rfl ?_ rfl ?_;omega)|(refine zD rfl rfl ?_ rfl ?_;omega)|(refine zP rfl ?_ rfl ?_;omega)|refine zG rfl rfl rfl rfl ?_|(refine jdq rfl rfl ?_ ?_ ?_;kernel_rfl;kernel_rfl)|refine zB rfl rfl rfl (by repeat constructor) rfl ?_|refine zH .here rfl rfl rfl rfl ?_|refine zH (.there .here) rfl rfl rfl rfl ?_|refine zH (.there (.there .here)) rfl rfl rfl rfl ?_|refine zH (.there (.there (.there .here))) rfl rfl rfl rfl ?_|refine zH (.there (.there (.there (.there .here)))) rfl rfl rfl rfl ?_)
  refine oC (Hc := HC) (Hr := X) hm Tryd.call12 rfl rfl (fun w s => s) ?_
  rintro _ F2 H2 hF2 ⟨rfl, rfl⟩
  refine oW (F' := F1) (H' := H2 ++ X) ?_ (fun w s => s.mono hF2)
  repeat (first|refine zJ rfl rfl ?_|refine jr rfl ?_|refine jn ?_|refine zM rfl rfl ?_|(refine zC rfl rfl ?_ rfl ?_;omega)|(refine zD rfl rfl ?_ rfl ?_;omega)|(refine zP rfl ?_ rfl ?_;omega)|refine zG rfl rfl rfl rfl ?_|(refine jdq rfl rfl ?_ ?_ ?_;kernel_rfl;kernel_rfl)|refine zB rfl rfl rfl (by repeat constructor) rfl ?_|refine zH .here rfl rfl rfl rfl ?_|refine zH (.there .here) rfl rfl rfl rfl ?_|refine zH (.there (.there .here)) rfl rfl rfl rfl ?_|refine zH (.there (.there (.there .here))) rfl rfl rfl rfl ?_|refine zH (.there (.there (.there (.there .here)))) rfl rfl rfl rfl ?_)
  refine oE (ev_alloc rfl) rfl ?_
  rintro _ _ _ _ ⟨rfl, b3, rfl, rfl⟩
  repeat (first|refine zJ rfl rfl ?_|refine jr rfl ?_|refine jn ?_|refine zM rfl rfl ?_|(refine zC rfl rfl ?_ rfl ?_;omega)|(refine zD rfl rfl ?_ rfl ?_;omega)|(refine zP rfl ?_ rfl ?_;omega)|refine zG rfl rfl rfl rfl ?_|(refine jdq rfl rfl ?_ ?_ ?_;kernel_rfl;kernel_rfl)|refine zB rfl rfl rfl (by repeat constructor) rfl ?_|refine zH .here rfl rfl rfl rfl ?_|refine zH (.there .here) rfl rfl rfl rfl ?_|refine zH (.there (.there .here)) rfl rfl rfl rfl ?_|refine zH (.there (.there (.there .here))) rfl rfl rfl rfl ?_|refine zH (.there (.there (.there (.there .here)))) rfl rfl rfl rfl ?_)
  refine oN (ev_store (vs := cvC (2, 17)) rfl rfl .agg rfl rfl (lay_all (zs := cvC (0, 0)) rfl) (ones_cvC _) .here) rfl ?_
  rintro _ _ _ _ ⟨rfl, _, rfl⟩
  repeat (first|refine zJ rfl rfl ?_|refine jr rfl ?_|refine jn ?_|refine zM rfl rfl ?_|(refine zC rfl rfl ?_ rfl ?_;omega)|(refine zD rfl rfl ?_ rfl ?_;omega)|(refine zP rfl ?_ rfl ?_;omega)|refine zG rfl rfl rfl rfl ?_|(refine jdq rfl rfl ?_ ?_ ?_;kernel_rfl;kernel_rfl)|refine zB rfl rfl rfl (by repeat constructor) rfl ?_|refine zH .here rfl rfl rfl rfl ?_|refine zH (.there .here) rfl rfl rfl rfl ?_|refine zH (.there (.there .here)) rfl rfl rfl rfl ?_|refine zH (.there (.there (.there .here))) rfl rfl rfl rfl ?_|refine zH (.there (.there (.there (.there .here)))) rfl rfl rfl rfl ?_)
  refine oC (Hc := H2) (Hr := blk b3 38 (cvC (2, 17)) :: X) hli Tryd.call18 rfl rfl (fun w s => Sat.front (A := [_]) s) ?_
  rintro u F3 _ hF3 rfl
  refine oW (F' := F1) (H' := own u 9 1 1 (strC [[112, 114, 101, 112, 97, 114, 101, 32, 50, 32, 49, 55]]) :: blk b3 38 (cvC (2, 17)) :: X) ?_ (fun w s => ?_)
  rotate_left
  · have s1 := s.perm (List.perm_middle (a := own u 9 1 1 (strC [[112, 114, 101, 112, 97, 114, 101, 32, 50, 32, 49, 55]])) (l₁ := H2) (l₂ := blk b3 38 (cvC (2, 17)) :: X)).symm
    exact (Sat.leftL (s1.perm List.perm_append_comm)).mono hF3
  refine oOwn .here fun a c hv _ _ _ => ?_
  subst hv
  refine oWith .here (fun h' ho => own_form ho (by omega)) fun ⟨gg, cc0, he, _⟩ => ?_
  cases he
  repeat (first|refine zJ rfl rfl ?_|refine jr rfl ?_|refine jn ?_|refine zM rfl rfl ?_|(refine zC rfl rfl ?_ rfl ?_;omega)|(refine zD rfl rfl ?_ rfl ?_;omega)|(refine zP rfl ?_ rfl ?_;omega)|refine zG rfl rfl rfl rfl ?_|(refine jdq rfl rfl ?_ ?_ ?_;kernel_rfl;kernel_rfl)|refine zB rfl rfl rfl (by repeat constructor) rfl ?_|refine zH .here rfl rfl rfl rfl ?_|refine zH (.there .here) rfl rfl rfl rfl ?_|refine zH (.there (.there .here)) rfl rfl rfl rfl ?_|refine zH (.there (.there (.there .here))) rfl rfl rfl rfl ?_|refine zH (.there (.there (.there (.there .here)))) rfl rfl rfl rfl ?_)
  refine oC (Hc := []) (Hr := own (.slice (some ⟨gg, 0, none⟩) 1 c) 9 1 1 (strC [[112, 114, 101, 112, 97, 114, 101, 32, 50, 32, 49, 55]]) :: blk b3 38 (cvC (2, 17)) :: X) hk Tryd.call8 rfl rfl (fun w s => s) ?_
  rintro _ F4 _ hF4 ⟨rfl, rfl⟩
  repeat (first|refine zJ rfl rfl ?_|refine jr rfl ?_|refine jn ?_|refine zM rfl rfl ?_|(refine zC rfl rfl ?_ rfl ?_;omega)|(refine zD rfl rfl ?_ rfl ?_;omega)|(refine zP rfl ?_ rfl ?_;omega)|refine zG rfl rfl rfl rfl ?_|(refine jdq rfl rfl ?_ ?_ ?_;kernel_rfl;kernel_rfl)|refine zB rfl rfl rfl (by repeat constructor) rfl ?_|refine zH .here rfl rfl rfl rfl ?_|refine zH (.there .here) rfl rfl rfl rfl ?_|refine zH (.there (.there .here)) rfl rfl rfl rfl ?_|refine zH (.there (.there (.there .here))) rfl rfl rfl rfl ?_|refine zH (.there (.there (.there (.there .here)))) rfl rfl rfl rfl ?_)
  refine oS (ev_load_agg (cs := cvC (2, 17)) rfl rfl (Rdb.ofB (n := 0) (.there .here) rfl) rfl) rfl ?_
  repeat (first|refine zJ rfl rfl ?_|refine jr rfl ?_|refine jn ?_|refine zM rfl rfl ?_|(refine zC rfl rfl ?_ rfl ?_;omega)|(refine zD rfl rfl ?_ rfl ?_;omega)|(refine zP rfl ?_ rfl ?_;omega)|refine zG rfl rfl rfl rfl ?_|(refine jdq rfl rfl ?_ ?_ ?_;kernel_rfl;kernel_rfl)|refine zB rfl rfl rfl (by repeat constructor) rfl ?_|refine zH .here rfl rfl rfl rfl ?_|refine zH (.there .here) rfl rfl rfl rfl ?_|refine zH (.there (.there .here)) rfl rfl rfl rfl ?_|refine zH (.there (.there (.there .here))) rfl rfl rfl rfl ?_|refine zH (.there (.there (.there (.there .here)))) rfl rfl rfl rfl ?_)
  refine oS (ev_cv_eql (p := (2, 17)) (q := (2, 17)) (r := true) rfl rfl (by decide)) rfl ?_
  repeat (first|refine zJ rfl rfl ?_|refine jr rfl ?_|refine jn ?_|refine zM rfl rfl ?_|(refine zC rfl rfl ?_ rfl ?_;omega)|(refine zD rfl rfl ?_ rfl ?_;omega)|(refine zP rfl ?_ rfl ?_;omega)|refine zG rfl rfl rfl rfl ?_|(refine jdq rfl rfl ?_ ?_ ?_;kernel_rfl;kernel_rfl)|refine zB rfl rfl rfl (by repeat constructor) rfl ?_|refine zH .here rfl rfl rfl rfl ?_|refine zH (.there .here) rfl rfl rfl rfl ?_|refine zH (.there (.there .here)) rfl rfl rfl rfl ?_|refine zH (.there (.there (.there .here))) rfl rfl rfl rfl ?_|refine zH (.there (.there (.there (.there .here)))) rfl rfl rfl rfl ?_)
  refine oS (ev_indexAddr (i := 0) rfl rfl rfl (by decide)) rfl ?_
  refine oS (ev_load (v := .string (strOf [112, 114, 101, 112, 97, 114, 101, 32, 50, 32, 49, 55])) rfl rfl (own_rdb .here)) rfl ?_
  refine oS (ev_strT rfl rfl rfl) rfl ?_
  repeat (first|refine zJ rfl rfl ?_|refine jr rfl ?_|refine jn ?_|refine zM rfl rfl ?_|(refine zC rfl rfl ?_ rfl ?_;omega)|(refine zD rfl rfl ?_ rfl ?_;omega)|(refine zP rfl ?_ rfl ?_;omega)|refine zG rfl rfl rfl rfl ?_|(refine jdq rfl rfl ?_ ?_ ?_;kernel_rfl;kernel_rfl)|refine zB rfl rfl rfl (by repeat constructor) rfl ?_|refine zH .here rfl rfl rfl rfl ?_|refine zH (.there .here) rfl rfl rfl rfl ?_|refine zH (.there (.there .here)) rfl rfl rfl rfl ?_|refine zH (.there (.there (.there .here))) rfl rfl rfl rfl ?_|refine zH (.there (.there (.there (.there .here)))) rfl rfl rfl rfl ?_)
  have hT4 := hT1.mono hF4
  have hnm := Name_spec 99 F4
  rw [show nmOf 99 = [63] from by decide] at hnm
  have hl0 := lines_spec (.pointer none) [] [] F4 (Crw.nil F4) hT4 (by simp)
  rw [show lineS [] 13 = [] from by decide +kernel] at hl0
  refine oP (hnm) Tryd.call7 rfl rfl ?_
  refine oS (ev_strT rfl rfl rfl) rfl ?_
  repeat (first|refine zJ rfl rfl ?_|refine jr rfl ?_|refine jn ?_|refine zM rfl rfl ?_|(refine zC rfl rfl ?_ rfl ?_;omega)|(refine zD rfl rfl ?_ rfl ?_;omega)|(refine zP rfl ?_ rfl ?_;omega)|refine zG rfl rfl rfl rfl ?_|(refine jdq rfl rfl ?_ ?_ ?_;kernel_rfl;kernel_rfl)|refine zB rfl rfl rfl (by repeat constructor) rfl ?_|refine zH .here rfl rfl rfl rfl ?_|refine zH (.there .here) rfl rfl rfl rfl ?_|refine zH (.there (.there .here)) rfl rfl rfl rfl ?_|refine zH (.there (.there (.there .here))) rfl rfl rfl rfl ?_|refine zH (.there (.there (.there (.there .here)))) rfl rfl rfl rfl ?_)
  refine oC (Hc := []) (Hr := own (.slice (some ⟨gg, 0, none⟩) 1 c) 9 1 1 (strC [[112, 114, 101, 112, 97, 114, 101, 32, 50, 32, 49, 55]]) :: blk b3 38 (cvC (2, 17)) :: X) hl0 Tryd.call18 rfl rfl (fun w s => s) ?_
  rintro u5 F5 _ hF5 rfl
  refine oOwn .here fun a5 c5 hv5 _ _ _ => ?_
  subst hv5
  repeat (first|refine zJ rfl rfl ?_|refine jr rfl ?_|refine jn ?_|refine zM rfl rfl ?_|(refine zC rfl rfl ?_ rfl ?_;omega)|(refine zD rfl rfl ?_ rfl ?_;omega)|(refine zP rfl ?_ rfl ?_;omega)|refine zG rfl rfl rfl rfl ?_|(refine jdq rfl rfl ?_ ?_ ?_;kernel_rfl;kernel_rfl)|refine zB rfl rfl rfl (by repeat constructor) rfl ?_|refine zH .here rfl rfl rfl rfl ?_|refine zH (.there .here) rfl rfl rfl rfl ?_|refine zH (.there (.there .here)) rfl rfl rfl rfl ?_|refine zH (.there (.there (.there .here))) rfl rfl rfl rfl ?_|refine zH (.there (.there (.there (.there .here)))) rfl rfl rfl rfl ?_)
  exact J_retv rfl (.tmp rfl .nil) [] (fun w s => s.drop.drop.drop) (hF0.trans (hF1.trans (hF4.trans hF5))) ⟨rfl, rfl⟩
end Go.Proofs.YtmicjjhkoicdnaaDoor
