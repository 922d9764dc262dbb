/-
  The census's counts of all, and of each two; the range over the twos. Conditions are typed with each.
  The census of all, of each two; the document's count. Conditions are typed with each.
  The document's digits; its lines; texts compared. Conditions are typed with each.
-/
import Derived.Test.YtmicjjhkoicdnaaDoorYg
namespace Go.Proofs.YtmicjjhkoicdnaaDoor
open Go.RowKit
set_option maxRecDepth 100000
def keyB : KeyT Tryd.prog 4 Bool := keyBool Tryd.underlying4
/-! keys of two whole numbers -/
def pairV (p : Int × Int) : Value := .agg [.int .i64 p.1, .int .i64 p.2].toArray
theorem equal_pair {P : Program} {kt e : TypeId} (ht : arrOf P kt = some (2, e, 1)) (he : P.underlying e = some (.int .i64)) (a b : Int × Int) (w : World) : (Op.equal kt (pairV a) (pairV b)).run P w = .ok (decide (a = b)) w := by
  obtain ⟨hu, i, hi, hs⟩ := arrOf_info ht
  obtain ⟨a1, a2⟩ := a
  obtain ⟨b1, b2⟩ := b
  have p0 := fun (c1 c2 : Int) => run_part_1 (P := P) (T := e) (off := 0) (cs := [.int .i64 c1, .int .i64 c2]) (v := .int .i64 c1) he rfl rfl w
  have p1 := fun (c1 c2 : Int) => run_part_1 (P := P) (T := e) (off := 1) (cs := [.int .i64 c1, .int .i64 c2]) (v := .int .i64 c2) he rfl rfl w
  show (Op.equalIn 10000 kt (pairV (a1, a2)) (pairV (b1, b2))).run P w = _
  unfold pairV
  dsimp only
  rw [Op.equalIn]
  simp only [Sem.run_bind, run_underlying hu, Result.andThen_ok, run_sizeOf hi, hs, Std.Legacy.Range.forIn_eq_forIn_range', Std.Legacy.Range.size, Nat.sub_zero, Nat.add_sub_cancel, Nat.div_one]
  rw [show List.range' 0 2 1 = [0, 1] from rfl]
  simp only [List.forIn_cons, List.forIn_nil, Sem.run_bind, Nat.zero_mul, Nat.one_mul, p0, p1, Result.andThen_ok, run_equalIn_int w 9998 e .i64 .i64 _ _ he]
  have q := fun (x y : Int) => run_equalIn_int (P := P) w 9998 e .i64 .i64 x y he
  by_cases h1 : a1 = b1 <;> by_cases h2 : a2 = b2 <;> simp [h1, h2, p0, p1, q]
theorem check_pair {P : Program} {kt e : TypeId} (ht : arrOf P kt = some (2, e, 1)) (he : P.underlying e = some (.int .i64)) (b : Bool) (a : Int × Int) (w : World) : (Instr.checkKey b 10000 kt (pairV a)).run P w = .ok () w := by
  obtain ⟨hu, i, hi, hs⟩ := arrOf_info ht
  obtain ⟨a1, a2⟩ := a
  have p0 := fun (c1 c2 : Int) => run_part_1 (P := P) (T := e) (off := 0) (cs := [.int .i64 c1, .int .i64 c2]) (v := .int .i64 c1) he rfl rfl w
  have p1 := fun (c1 c2 : Int) => run_part_1 (P := P) (T := e) (off := 1) (cs := [.int .i64 c1, .int .i64 c2]) (v := .int .i64 c2) he rfl rfl w
  unfold pairV
  dsimp only
  rw [Instr.checkKey]
  simp only [Sem.run_bind, run_underlying hu, Result.andThen_ok, run_sizeOf hi, hs, Std.Legacy.Range.forIn_eq_forIn_range', Std.Legacy.Range.size, Nat.sub_zero, Nat.add_sub_cancel, Nat.div_one]
  rw [show List.range' 0 2 1 = [0, 1] from rfl]
  simp only [List.forIn_cons, List.forIn_nil, Sem.run_bind, Nat.zero_mul, Nat.one_mul, p0, p1, Result.andThen_ok, checkKey_int he 9998, Sem.run_pure, run_sizeOf hi, hs]
def keyPair {P : Program} {kt e : TypeId} (ht : arrOf P kt = some (2, e, 1)) (he : P.underlying e = some (.int .i64)) : KeyT P kt (Int × Int) where
  val := pairV
  chk := fun b a w => check_pair ht he b a w
  same := fun a => by simp [pairV, Instr.sameBits]
  find := fun a M es h w => find_wide pairV (by rw [(arrOf_info ht).1]) (fun a b w => equal_pair ht he a b w) a M es h w
def keyP : KeyT Tryd.prog 55 (Int × Int) := keyPair (e := 3) (by kernel_rfl) Tryd.underlying3
set_option maxHeartbeats 8000000 in
theorem countB_spec (pc : Value) (HC : List Asrt) (xs : List SentX) (fk : FuncId) (key : SentX → Bool) (F : PH) (hC : Crw F pc HC xs) (hfk : ∀ args w, (callFunc fk args).run Tryd.prog w = .ok (.enter fk args) w)
    (hkey : ∀ x row G, SentOk G x row → Pure Tryd.prog fk [.agg row.toArray] G (keyB.val (key x))) :
    Spec Tryd.prog 26 [pc, fnV fk []] F HC fun u _ H' => ∃ bm, u = .map (some bm) ∧ H' = mp keyB bm (cntM key xs xs.length) :: HC := by
  refine Spec.of2 Tryd.func26 rfl rfl fun X w0 => ?_
  repeat (first|refine zJ rfl rfl ?_|refine jr rfl ?_|refine jn ?_|refine zM rfl rfl ?_|(refine zC rfl rfl ?_ rfl ?_;omega)|(refine zD rfl rfl ?_ rfl ?_;omega)|(refine zP rfl ?_ rfl ?_;omega)|refine zG rfl rfl rfl rfl ?_|(refine jdq rfl rfl ?_ ?_ ?_;kernel_rfl;kernel_rfl)|refine zB rfl rfl rfl (by repeat constructor) rfl ?_|refine zH .here rfl rfl rfl rfl ?_|refine zH (.there .here) rfl rfl rfl rfl ?_|refine zH (.there (.there .here)) rfl rfl rfl rfl ?_|refine zH (.there (.there (.there .here))) rfl rfl rfl rfl ?_|refine zH (.there (.there (.there (.there .here)))) rfl rfl rfl rfl ?_)
  refine oE (ev_makeMap (K := keyB)) rfl ?_
  rintro _ _ _ _ ⟨rfl, bm, rfl, rfl⟩
  repeat (first|refine zJ rfl rfl ?_|refine jr rfl ?_|refine jn ?_|refine zM rfl rfl ?_|(refine zC rfl rfl ?_ rfl ?_;omega)|(refine zD rfl rfl ?_ rfl ?_;omega)|(refine zP rfl ?_ rfl ?_;omega)|refine zG rfl rfl rfl rfl ?_|(refine jdq rfl rfl ?_ ?_ ?_;kernel_rfl;kernel_rfl)|refine zB rfl rfl rfl (by repeat constructor) rfl ?_|refine zH .here rfl rfl rfl rfl ?_|refine zH (.there .here) rfl rfl rfl rfl ?_|refine zH (.there (.there .here)) rfl rfl rfl rfl ?_|refine zH (.there (.there (.there .here))) rfl rfl rfl rfl ?_|refine zH (.there (.there (.there (.there .here)))) rfl rfl rfl rfl ?_)
  refine oC (Hc := HC) (Hr := mp keyB bm [] :: X) hC.len Tryd.call32 rfl rfl (fun _ s => Sat.front (A := [_]) s) ?_
  rintro _ F1 H1 hF1 ⟨rfl, rfl⟩
  repeat (first|refine zJ rfl rfl ?_|refine jr rfl ?_|refine jn ?_|refine zM rfl rfl ?_|(refine zC rfl rfl ?_ rfl ?_;omega)|(refine zD rfl rfl ?_ rfl ?_;omega)|(refine zP rfl ?_ rfl ?_;omega)|refine zG rfl rfl rfl rfl ?_|(refine jdq rfl rfl ?_ ?_ ?_;kernel_rfl;kernel_rfl)|refine zB rfl rfl rfl (by repeat constructor) rfl ?_|refine zH .here rfl rfl rfl rfl ?_|refine zH (.there .here) rfl rfl rfl rfl ?_|refine zH (.there (.there .here)) rfl rfl rfl rfl ?_|refine zH (.there (.there (.there .here))) rfl rfl rfl rfl ?_|refine zH (.there (.there (.there (.there .here)))) rfl rfl rfl rfl ?_)
  have hn := hC.n
  have hall : ∀ x ∈ xs, x.size ≤ 40000 := fun x hx => by
    obtain ⟨i, hi⟩ := List.mem_iff_getElem?.1 hx
    obtain ⟨row, ⟨_, _, _, _, _, h1, h2⟩, _⟩ := hC.at_ i x hi
    unfold SentX.size; omega
  refine J_loop (ι := Nat) (fun i => i ≤ xs.length) (fun i => xs.length - i) (fun i => [(0, pc), (1, fnV fk []), (5, .map (some bm)), (12, .int .i64 xs.length), (13, .int .i64 i)]) (fun _ => F)
    (fun i => mp keyB bm (cntM key xs i) :: (H1 ++ X)) 0 (Nat.zero_le _) ⟨⟨rfl, rfl, rfl, rfl, rfl, trivial⟩, fun w s => (Sat.front (A := H1) (B := [_]) (s.mono hF1))⟩ ?_
  intro i hi
  by_cases hlt : i < xs.length
  · have hx : xs[i]? = some xs[i] := List.getElem?_eq_getElem hlt
    obtain ⟨row, hok, hat⟩ := hC.at_ i _ hx
    generalize xs[i] = x at hx hok
    have hrow := hok
    obtain ⟨vb, vt, rfl, hb, ht, hb1, ht1⟩ := hrow
    have hsz : x.size ≤ 40000 := by unfold SentX.size; omega
    repeat (first|refine zJ rfl rfl ?_|refine jr rfl ?_|refine jn ?_|refine zM rfl rfl ?_|(refine zC rfl rfl ?_ rfl ?_;omega)|(refine zD rfl rfl ?_ rfl ?_;omega)|(refine zP rfl ?_ rfl ?_;omega)|refine zG rfl rfl rfl rfl ?_|(refine jdq rfl rfl ?_ ?_ ?_;kernel_rfl;kernel_rfl)|refine zB rfl rfl rfl (by repeat constructor) rfl ?_|refine zH .here rfl rfl rfl rfl ?_|refine zH (.there .here) rfl rfl rfl rfl ?_|refine zH (.there (.there .here)) rfl rfl rfl rfl ?_|refine zH (.there (.there (.there .here))) rfl rfl rfl rfl ?_|refine zH (.there (.there (.there (.there .here)))) rfl rfl rfl rfl ?_)
    refine oC (Hc := H1) (Hr := mp keyB bm (cntM key xs i) :: X) hat Tryd.call33 rfl rfl (fun _ s => Sat.front (A := [_]) s) ?_
    rintro _ F2 H2 hF2 ⟨rfl, rfl⟩
    refine oW (F' := F2) (H' := mp keyB bm (cntM key xs i) :: (H2 ++ X)) ?_ (fun w s => Sat.front (A := H2) (B := [_]) s)
    replace hok := hok.mono hF2
    replace hb := SliceV.mono hb hF2
    replace ht := ht.mono hF2
    have hones := hok.ones
    unfold sentC at hok hones ⊢
    repeat (first|refine zJ rfl rfl ?_|refine jr rfl ?_|refine jn ?_|refine zM rfl rfl ?_|(refine zC rfl rfl ?_ rfl ?_;omega)|(refine zD rfl rfl ?_ rfl ?_;omega)|(refine zP rfl ?_ rfl ?_;omega)|refine zG rfl rfl rfl rfl ?_|(refine jdq rfl rfl ?_ ?_ ?_;kernel_rfl;kernel_rfl)|refine zB rfl rfl rfl (by repeat constructor) rfl ?_|refine zH .here rfl rfl rfl rfl ?_|refine zH (.there .here) rfl rfl rfl rfl ?_|refine zH (.there (.there .here)) rfl rfl rfl rfl ?_|refine zH (.there (.there (.there .here))) rfl rfl rfl rfl ?_|refine zH (.there (.there (.there (.there .here)))) rfl rfl rfl rfl ?_)
    refine oE (ev_alloc rfl) rfl ?_
    rintro _ _ _ _ ⟨rfl, b7, rfl, rfl⟩
    refine oN (ev_store rfl rfl .agg rfl rfl (lay_all (zs := zSent) rfl) hones .here) rfl ?_
    rintro _ _ _ _ ⟨rfl, _, rfl⟩
    repeat (first|refine zJ rfl rfl ?_|refine jr rfl ?_|refine jn ?_|refine zM rfl rfl ?_|(refine zC rfl rfl ?_ rfl ?_;omega)|(refine zD rfl rfl ?_ rfl ?_;omega)|(refine zP rfl ?_ rfl ?_;omega)|refine zG rfl rfl rfl rfl ?_|(refine jdq rfl rfl ?_ ?_ ?_;kernel_rfl;kernel_rfl)|refine zB rfl rfl rfl (by repeat constructor) rfl ?_|refine zH .here rfl rfl rfl rfl ?_|refine zH (.there .here) rfl rfl rfl rfl ?_|refine zH (.there (.there .here)) rfl rfl rfl rfl ?_|refine zH (.there (.there (.there .here))) rfl rfl rfl rfl ?_|refine zH (.there (.there (.there (.there .here)))) rfl rfl rfl rfl ?_)
    refine oS (ev_load_agg (cs := [.int .i64 x.from_, .int .i64 x.to, .int .i64 x.kind, .int .i64 x.mf, vb, vt]) rfl rfl (Rdb.ofB (n := 0) .here rfl) rfl) rfl ?_
    refine oPF rfl (hkey x _ F2 hok) hfk rfl rfl ?_
    refine oS (ev_lookup (K := keyB) (a := key x) (zv := cv (0, 0)) (r := cv (tot (at_ key (key x)) (xs.take i))) rfl rfl rfl rfl (.there .here) (cntM_getD key xs (key x) hi).symm) rfl ?_
    obtain ⟨m, sz, hm⟩ : ∃ m sz, tot (at_ key (key x)) (xs.take i) = (m, sz) := ⟨_, _, rfl⟩
    have hbd := tot_le (at_ key (key x)) (xs.take i) fun y hy => hall y (List.mem_of_mem_take hy)
    rw [List.length_take, Nat.min_eq_left hi, hm] at hbd
    dsimp only at hbd
    have hm1 : m ≤ 16384 := by omega
    have hm2 : sz ≤ 655360000 := by omega
    rw [hm]
    unfold cv
    dsimp only
    repeat (first|refine zJ rfl rfl ?_|refine jr rfl ?_|refine jn ?_|refine zM rfl rfl ?_|(refine zC rfl rfl ?_ rfl ?_;omega)|(refine zD rfl rfl ?_ rfl ?_;omega)|(refine zP rfl ?_ rfl ?_;omega)|refine zG rfl rfl rfl rfl ?_|(refine jdq rfl rfl ?_ ?_ ?_;kernel_rfl;kernel_rfl)|refine zB rfl rfl rfl (by repeat constructor) rfl ?_|refine zH .here rfl rfl rfl rfl ?_|refine zH (.there .here) rfl rfl rfl rfl ?_|refine zH (.there (.there .here)) rfl rfl rfl rfl ?_|refine zH (.there (.there (.there .here))) rfl rfl rfl rfl ?_|refine zH (.there (.there (.there (.there .here)))) rfl rfl rfl rfl ?_)
    refine oE (ev_alloc rfl) rfl ?_
    rintro _ _ _ _ ⟨rfl, b9, rfl, rfl⟩
    refine oN (ev_store rfl rfl .agg rfl rfl (lay_all (zs := [.int .i64 0, .int .i64 0]) rfl) (by (repeat (first | exact ones_nil | refine ones_cons rfl ?_))) .here) rfl ?_
    rintro _ _ _ _ ⟨rfl, _, rfl⟩
    repeat (first|refine zJ rfl rfl ?_|refine jr rfl ?_|refine jn ?_|refine zM rfl rfl ?_|(refine zC rfl rfl ?_ rfl ?_;omega)|(refine zD rfl rfl ?_ rfl ?_;omega)|(refine zP rfl ?_ rfl ?_;omega)|refine zG rfl rfl rfl rfl ?_|(refine jdq rfl rfl ?_ ?_ ?_;kernel_rfl;kernel_rfl)|refine zB rfl rfl rfl (by repeat constructor) rfl ?_|refine zH .here rfl rfl rfl rfl ?_|refine zH (.there .here) rfl rfl rfl rfl ?_|refine zH (.there (.there .here)) rfl rfl rfl rfl ?_|refine zH (.there (.there (.there .here))) rfl rfl rfl rfl ?_|refine zH (.there (.there (.there (.there .here)))) rfl rfl rfl rfl ?_)
    refine oN (ev_store rfl rfl .int rfl rfl (.put .nil) (ones_cons rfl ones_nil) .here) rfl ?_
    rintro _ _ _ _ ⟨rfl, _, rfl⟩
    repeat (first|refine zJ rfl rfl ?_|refine jr rfl ?_|refine jn ?_|refine zM rfl rfl ?_|(refine zC rfl rfl ?_ rfl ?_;omega)|(refine zD rfl rfl ?_ rfl ?_;omega)|(refine zP rfl ?_ rfl ?_;omega)|refine zG rfl rfl rfl rfl ?_|(refine jdq rfl rfl ?_ ?_ ?_;kernel_rfl;kernel_rfl)|refine zB rfl rfl rfl (by repeat constructor) rfl ?_|refine zH .here rfl rfl rfl rfl ?_|refine zH (.there .here) rfl rfl rfl rfl ?_|refine zH (.there (.there .here)) rfl rfl rfl rfl ?_|refine zH (.there (.there (.there .here))) rfl rfl rfl rfl ?_|refine zH (.there (.there (.there (.there .here)))) rfl rfl rfl rfl ?_)
    have hwl : ∀ ku fu, (wireB ku fu x.body x.tags).length = x.size := fun ku fu => by
      unfold SentX.size wireB wireP
      rw [List.length_append, List.length_append, List.length_append, List.length_append, List.length_append, put1_len, put1_len, put4_len, put2_len, flatten_len ht.2]
      omega
    obtain ⟨ku, hku, hku2⟩ := wrap_nat x.kind
    obtain ⟨fu, hfu, hfu2⟩ := wrap_nat x.mf
    refine J_join (ι := Unit) [_] (fun _ => True) (fun _ => [(0, pc), (1, fnV fk []), (5, .map (some bm)), (12, .int .i64 xs.length), (13, .int .i64 i), (7, .pointer (some ⟨b7, 0, none⟩)), (9, .pointer (some ⟨b9, 0, none⟩))]) (fun _ => F2) (fun _ => blk b9 38 [.int .i64 (m + 1), .int .i64 (sz + x.size)] :: blk b7 49 [.int .i64 x.from_, .int .i64 x.to, .int .i64 x.kind, .int .i64 x.mf, vb, vt] :: mp keyB bm (cntM key xs i) :: (H2 ++ X)) ?_ ?_
    · show J _ (_ :: _) _ _ _
      refine ja F2 [blk b7 49 [.int .i64 x.from_, .int .i64 x.to, .int .i64 x.kind, .int .i64 x.mf, vb, vt]] ?_ ?_ ?_; kernel_rfl
      · exact fun w s => (s.pick (.there .here)).head
      refine aT 0 rfl (ev_qe rfl) rfl rfl ?_ ?_ ?_ ?_; kernel_rfl; kernel_rfl; kernel_rfl
      refine aT 2 rfl (ev_qe rfl) rfl rfl ?_ ?_ ?_ ?_; kernel_rfl; kernel_rfl; kernel_rfl
      refine aT 3 rfl (ev_qe rfl) rfl rfl ?_ ?_ ?_ ?_; kernel_rfl; kernel_rfl; kernel_rfl
      refine aT 4 rfl (ev_load_agg (cs := msgC x.kind x.mf vb vt) rfl rfl (Rdb.ofB (n := 2) .here rfl) rfl) rfl rfl ?_ ?_ ?_ ?_; kernel_rfl; kernel_rfl; kernel_rfl
      refine aB2 (i := 1) (i' := 5) (by kernel_rfl) ?_ ?_
      · refine aV rfl (ev_load (v := .int .i64 sz) rfl rfl (Rdb.ofB (n := 1) .here rfl)) rfl rfl ?_
        refine aB (i := 5) (by kernel_rfl) (aC (Hc := []) (Hr := blk b9 38 [.int .i64 (m + 1), .int .i64 sz] :: blk b7 49 [.int .i64 x.from_, .int .i64 x.to, .int .i64 x.kind, .int .i64 x.mf, vb, vt] :: mp keyB bm (cntM key xs i) :: (H2 ++ X)) rfl (bytes_spec x.kind x.mf vb vt x.body x.tags ku fu F2 hb ht (by omega) (by omega) hku hfu hku2 hfu2) Tryd.call34 rfl rfl rfl (fun _ s => s) ?_ ?_)
        · rintro v F3 _ hF3 rfl w s
          exact (s.pick (.there (.there .here))).head.mono hF3
        rintro u F3 _ hF3 rfl
        refine aOwn .here fun au cu hu' _ _ _ => ?_
        subst hu'
        refine aWeak (F' := F2) (H' := blk b9 38 [.int .i64 (m + 1), .int .i64 sz] :: blk b7 49 [.int .i64 x.from_, .int .i64 x.to, .int .i64 x.kind, .int .i64 x.mf, vb, vt] :: mp keyB bm (cntM key xs i) :: (H2 ++ X)) ?_ (fun w s => (s.pick (.there .here)).head) (fun w s => s.drop.mono hF3)
        rw [hwl]
        refine aT 6 rfl (ev_qe rfl) rfl rfl ?_ ?_ ?_ ?_; kernel_rfl; kernel_rfl; kernel_rfl
        refine aT 7 rfl (ev_add (m := sz) (n := x.size) rfl rfl (by dsimp only [InK]; omega)) rfl rfl ?_ ?_ ?_ ?_; kernel_rfl; kernel_rfl; kernel_rfl
        refine aT 8 rfl (ev_qe rfl) rfl rfl ?_ ?_ ?_ ?_; kernel_rfl; kernel_rfl; kernel_rfl
        refine aB (i := 9) (by kernel_rfl) (aN rfl (ev_store rfl rfl .int rfl rfl (.skip (.put .nil)) (ones_cons rfl ones_nil) .here) rfl ?_ ?_)
        · rintro _ _ _ _ ⟨rfl, _, rfl⟩ w s
          exact (s.pick (.there .here)).head
        rintro _ _ _ _ ⟨rfl, _, rfl⟩
        refine aD (by kernel_rfl) ?_
        exact J_joined () trivial ⟨⟨rfl, rfl, rfl, rfl, rfl, rfl, rfl, trivial⟩, fun w s => s⟩
      refine (aC (Hc := []) (Hr := blk b9 38 [.int .i64 (m + 1), .int .i64 sz] :: blk b7 49 [.int .i64 x.from_, .int .i64 x.to, .int .i64 x.kind, .int .i64 x.mf, vb, vt] :: mp keyB bm (cntM key xs i) :: (H2 ++ X)) rfl (bytes_spec x.kind x.mf vb vt x.body x.tags ku fu F2 hb ht (by omega) (by omega) hku hfu hku2 hfu2) Tryd.call34 rfl rfl rfl (fun _ s => s) ?_ ?_)
      · rintro v F3 _ hF3 rfl w s
        exact (s.pick (.there (.there .here))).head.mono hF3
      rintro u F3 _ hF3 rfl
      refine aOwn .here fun au cu hu' _ _ _ => ?_
      subst hu'
      refine aWeak (F' := F2) (H' := blk b9 38 [.int .i64 (m + 1), .int .i64 sz] :: blk b7 49 [.int .i64 x.from_, .int .i64 x.to, .int .i64 x.kind, .int .i64 x.mf, vb, vt] :: mp keyB bm (cntM key xs i) :: (H2 ++ X)) ?_ (fun w s => (s.pick (.there .here)).head) (fun w s => s.drop.mono hF3)
      rw [hwl]
      refine aT 6 rfl (ev_qe rfl) rfl rfl ?_ ?_ ?_ ?_; kernel_rfl; kernel_rfl; kernel_rfl
      refine aB (i := 1) (by kernel_rfl) (aV rfl (ev_load (v := .int .i64 sz) rfl rfl (Rdb.ofB (n := 1) .here rfl)) rfl rfl ?_)
      refine aT 7 rfl (ev_add (m := sz) (n := x.size) rfl rfl (by dsimp only [InK]; omega)) rfl rfl ?_ ?_ ?_ ?_; kernel_rfl; kernel_rfl; kernel_rfl
      refine aT 8 rfl (ev_qe rfl) rfl rfl ?_ ?_ ?_ ?_; kernel_rfl; kernel_rfl; kernel_rfl
      refine aB (i := 9) (by kernel_rfl) (aN rfl (ev_store rfl rfl .int rfl rfl (.skip (.put .nil)) (ones_cons rfl ones_nil) .here) rfl ?_ ?_)
      · rintro _ _ _ _ ⟨rfl, _, rfl⟩ w s
        exact (s.pick (.there .here)).head
      rintro _ _ _ _ ⟨rfl, _, rfl⟩
      refine aD (by kernel_rfl) ?_
      exact J_joined () trivial ⟨⟨rfl, rfl, rfl, rfl, rfl, rfl, rfl, trivial⟩, fun w s => s⟩
    intro _ _
    repeat (first|refine zJ rfl rfl ?_|refine jr rfl ?_|refine jn ?_|refine zM rfl rfl ?_|(refine zC rfl rfl ?_ rfl ?_;omega)|(refine zD rfl rfl ?_ rfl ?_;omega)|(refine zP rfl ?_ rfl ?_;omega)|refine zG rfl rfl rfl rfl ?_|(refine jdq rfl rfl ?_ ?_ ?_;kernel_rfl;kernel_rfl)|refine zB rfl rfl rfl (by repeat constructor) rfl ?_|refine zH .here rfl rfl rfl rfl ?_|refine zH (.there .here) rfl rfl rfl rfl ?_|refine zH (.there (.there .here)) rfl rfl rfl rfl ?_|refine zH (.there (.there (.there .here))) rfl rfl rfl rfl ?_|refine zH (.there (.there (.there (.there .here)))) rfl rfl rfl rfl ?_)
    refine jdl rfl ?_ ?_ ?_ ?_; kernel_rfl; kernel_rfl; kernel_rfl; dsimp only [List.dropLast]
    repeat (first|refine zJ rfl rfl ?_|refine jr rfl ?_|refine jn ?_|refine zM rfl rfl ?_|(refine zC rfl rfl ?_ rfl ?_;omega)|(refine zD rfl rfl ?_ rfl ?_;omega)|(refine zP rfl ?_ rfl ?_;omega)|refine zG rfl rfl rfl rfl ?_|(refine jdq rfl rfl ?_ ?_ ?_;kernel_rfl;kernel_rfl)|refine zB rfl rfl rfl (by repeat constructor) rfl ?_|refine zH .here rfl rfl rfl rfl ?_|refine zH (.there .here) rfl rfl rfl rfl ?_|refine zH (.there (.there .here)) rfl rfl rfl rfl ?_|refine zH (.there (.there (.there .here))) rfl rfl rfl rfl ?_|refine zH (.there (.there (.there (.there .here)))) rfl rfl rfl rfl ?_)
    refine oS (ev_load_agg (cs := [.int .i64 x.from_, .int .i64 x.to, .int .i64 x.kind, .int .i64 x.mf, vb, vt]) rfl rfl (Rdb.ofB (n := 0) (.there .here) rfl) rfl) rfl ?_
    refine oPF rfl (hkey x _ F2 hok) hfk rfl rfl ?_
    refine oS (ev_load_agg (cs := [.int .i64 (m + 1), .int .i64 (sz + x.size)]) rfl rfl (Rdb.ofB (n := 0) .here rfl) rfl) rfl ?_
    refine jn ?_
    refine jL rfl ?_
    refine oN (ev_mapUpdate (K := keyB) (M := cntM key xs i) (a := key x) rfl rfl rfl rfl (.there (.there .here))) rfl ?_
    rintro _ _ _ _ ⟨rfl, _, rfl⟩
    repeat (first|refine zJ rfl rfl ?_|refine jr rfl ?_|refine jn ?_|refine zM rfl rfl ?_|(refine zC rfl rfl ?_ rfl ?_;omega)|(refine zD rfl rfl ?_ rfl ?_;omega)|(refine zP rfl ?_ rfl ?_;omega)|refine zG rfl rfl rfl rfl ?_|(refine jdq rfl rfl ?_ ?_ ?_;kernel_rfl;kernel_rfl)|refine zB rfl rfl rfl (by repeat constructor) rfl ?_|refine zH .here rfl rfl rfl rfl ?_|refine zH (.there .here) rfl rfl rfl rfl ?_|refine zH (.there (.there .here)) rfl rfl rfl rfl ?_|refine zH (.there (.there (.there .here))) rfl rfl rfl rfl ?_|refine zH (.there (.there (.there (.there .here)))) rfl rfl rfl rfl ?_)
    have hnext : setK (cntM key xs i) (key x) (.agg #[.int .i64 (m + 1), .int .i64 (sz + x.size)]) = cntM key xs (i + 1) := by
      rw [cntM_succ hx, take_snoc' hx, tot_snoc, hm, if_pos (by simp [at_])]
      unfold cv
      simp
    refine J_again (i + 1) (by omega) (by omega) ⟨⟨rfl, rfl, rfl, rfl, rfl, trivial⟩, fun w s => ?_⟩
    rw [← hnext]
    exact s.drop.drop.mono hF2
  · obtain rfl : i = xs.length := by omega
    repeat (first|refine zJ rfl rfl ?_|refine jr rfl ?_|refine jn ?_|refine zM rfl rfl ?_|(refine zC rfl rfl ?_ rfl ?_;omega)|(refine zD rfl rfl ?_ rfl ?_;omega)|(refine zP rfl ?_ rfl ?_;omega)|refine zG rfl rfl rfl rfl ?_|(refine jdq rfl rfl ?_ ?_ ?_;kernel_rfl;kernel_rfl)|refine zB rfl rfl rfl (by repeat constructor) rfl ?_|refine zH .here rfl rfl rfl rfl ?_|refine zH (.there .here) rfl rfl rfl rfl ?_|refine zH (.there (.there .here)) rfl rfl rfl rfl ?_|refine zH (.there (.there (.there .here))) rfl rfl rfl rfl ?_|refine zH (.there (.there (.there (.there .here)))) rfl rfl rfl rfl ?_)
    exact J_ret1 rfl rfl (mp keyB bm (cntM key xs xs.length) :: H1) rfl (PH.ler _) ⟨bm, rfl, rfl⟩
set_option maxHeartbeats 8000000 in
theorem countP_spec (pc : Value) (HC : List Asrt) (xs : List SentX) (fk : FuncId) (key : SentX → (Int × Int)) (F : PH) (hC : Crw F pc HC xs) (hfk : ∀ args w, (callFunc fk args).run Tryd.prog w = .ok (.enter fk args) w)
    (hkey : ∀ x row G, SentOk G x row → Pure Tryd.prog fk [.agg row.toArray] G (keyP.val (key x))) :
    Spec Tryd.prog 28 [pc, fnV fk []] F HC fun u _ H' => ∃ bm, u = .map (some bm) ∧ H' = mp keyP bm (cntM key xs xs.length) :: HC := by
  refine Spec.of2 Tryd.func28 rfl rfl fun X w0 => ?_
  repeat (first|refine zJ rfl rfl ?_|refine jr rfl ?_|refine jn ?_|refine zM rfl rfl ?_|(refine zC rfl rfl ?_ rfl ?_;omega)|(refine zD rfl rfl ?_ rfl ?_;omega)|(refine zP rfl ?_ rfl ?_;omega)|refine zG rfl rfl rfl rfl ?_|(refine jdq rfl rfl ?_ ?_ ?_;kernel_rfl;kernel_rfl)|refine zB rfl rfl rfl (by repeat constructor) rfl ?_|refine zH .here rfl rfl rfl rfl ?_|refine zH (.there .here) rfl rfl rfl rfl ?_|refine zH (.there (.there .here)) rfl rfl rfl rfl ?_|refine zH (.there (.there (.there .here))) rfl rfl rfl rfl ?_|refine zH (.there (.there (.there (.there .here)))) rfl rfl rfl rfl ?_)
  refine oE (ev_makeMap (K := keyP)) rfl ?_
  rintro _ _ _ _ ⟨rfl, bm, rfl, rfl⟩
  repeat (first|refine zJ rfl rfl ?_|refine jr rfl ?_|refine jn ?_|refine zM rfl rfl ?_|(refine zC rfl rfl ?_ rfl ?_;omega)|(refine zD rfl rfl ?_ rfl ?_;omega)|(refine zP rfl ?_ rfl ?_;omega)|refine zG rfl rfl rfl rfl ?_|(refine jdq rfl rfl ?_ ?_ ?_;kernel_rfl;kernel_rfl)|refine zB rfl rfl rfl (by repeat constructor) rfl ?_|refine zH .here rfl rfl rfl rfl ?_|refine zH (.there .here) rfl rfl rfl rfl ?_|refine zH (.there (.there .here)) rfl rfl rfl rfl ?_|refine zH (.there (.there (.there .here))) rfl rfl rfl rfl ?_|refine zH (.there (.there (.there (.there .here)))) rfl rfl rfl rfl ?_)
  refine oC (Hc := HC) (Hr := mp keyP bm [] :: X) hC.len Tryd.call32 rfl rfl (fun _ s => Sat.front (A := [_]) s) ?_
  rintro _ F1 H1 hF1 ⟨rfl, rfl⟩
  repeat (first|refine zJ rfl rfl ?_|refine jr rfl ?_|refine jn ?_|refine zM rfl rfl ?_|(refine zC rfl rfl ?_ rfl ?_;omega)|(refine zD rfl rfl ?_ rfl ?_;omega)|(refine zP rfl ?_ rfl ?_;omega)|refine zG rfl rfl rfl rfl ?_|(refine jdq rfl rfl ?_ ?_ ?_;kernel_rfl;kernel_rfl)|refine zB rfl rfl rfl (by repeat constructor) rfl ?_|refine zH .here rfl rfl rfl rfl ?_|refine zH (.there .here) rfl rfl rfl rfl ?_|refine zH (.there (.there .here)) rfl rfl rfl rfl ?_|refine zH (.there (.there (.there .here))) rfl rfl rfl rfl ?_|refine zH (.there (.there (.there (.there .here)))) rfl rfl rfl rfl ?_)
  have hn := hC.n
  have hall : ∀ x ∈ xs, x.size ≤ 40000 := fun x hx => by
    obtain ⟨i, hi⟩ := List.mem_iff_getElem?.1 hx
    obtain ⟨row, ⟨_, _, _, _, _, h1, h2⟩, _⟩ := hC.at_ i x hi
    unfold SentX.size; omega
  refine J_loop (ι := Nat) (fun i => i ≤ xs.length) (fun i => xs.length - i) (fun i => [(0, pc), (1, fnV fk []), (5, .map (some bm)), (12, .int .i64 xs.length), (13, .int .i64 i)]) (fun _ => F)
    (fun i => mp keyP bm (cntM key xs i) :: (H1 ++ X)) 0 (Nat.zero_le _) ⟨⟨rfl, rfl, rfl, rfl, rfl, trivial⟩, fun w s => (Sat.front (A := H1) (B := [_]) (s.mono hF1))⟩ ?_
  intro i hi
  by_cases hlt : i < xs.length
  · have hx : xs[i]? = some xs[i] := List.getElem?_eq_getElem hlt
    obtain ⟨row, hok, hat⟩ := hC.at_ i _ hx
    generalize xs[i] = x at hx hok
    have hrow := hok
    obtain ⟨vb, vt, rfl, hb, ht, hb1, ht1⟩ := hrow
    have hsz : x.size ≤ 40000 := by unfold SentX.size; omega
    repeat (first|refine zJ rfl rfl ?_|refine jr rfl ?_|refine jn ?_|refine zM rfl rfl ?_|(refine zC rfl rfl ?_ rfl ?_;omega)|(refine zD rfl rfl ?_ rfl ?_;omega)|(refine zP rfl ?_ rfl ?_;omega)|refine zG rfl rfl rfl rfl ?_|(refine jdq rfl rfl ?_ ?_ ?_;kernel_rfl;kernel_rfl)|refine zB rfl rfl rfl (by repeat constructor) rfl ?_|refine zH .here rfl rfl rfl rfl ?_|refine zH (.there .here) rfl rfl rfl rfl ?_|refine zH (.there (.there .here)) rfl rfl rfl rfl ?_|refine zH (.there (.there (.there .here))) rfl rfl rfl rfl ?_|refine zH (.there (.there (.there (.there .here)))) rfl rfl rfl rfl ?_)
    refine oC (Hc := H1) (Hr := mp keyP bm (cntM key xs i) :: X) hat Tryd.call33 rfl rfl (fun _ s => Sat.front (A := [_]) s) ?_
    rintro _ F2 H2 hF2 ⟨rfl, rfl⟩
    refine oW (F' := F2) (H' := mp keyP bm (cntM key xs i) :: (H2 ++ X)) ?_ (fun w s => Sat.front (A := H2) (B := [_]) s)
    replace hok := hok.mono hF2
    replace hb := SliceV.mono hb hF2
    replace ht := ht.mono hF2
    have hones := hok.ones
    unfold sentC at hok hones ⊢
    repeat (first|refine zJ rfl rfl ?_|refine jr rfl ?_|refine jn ?_|refine zM rfl rfl ?_|(refine zC rfl rfl ?_ rfl ?_;omega)|(refine zD rfl rfl ?_ rfl ?_;omega)|(refine zP rfl ?_ rfl ?_;omega)|refine zG rfl rfl rfl rfl ?_|(refine jdq rfl rfl ?_ ?_ ?_;kernel_rfl;kernel_rfl)|refine zB rfl rfl rfl (by repeat constructor) rfl ?_|refine zH .here rfl rfl rfl rfl ?_|refine zH (.there .here) rfl rfl rfl rfl ?_|refine zH (.there (.there .here)) rfl rfl rfl rfl ?_|refine zH (.there (.there (.there .here))) rfl rfl rfl rfl ?_|refine zH (.there (.there (.there (.there .here)))) rfl rfl rfl rfl ?_)
    refine oE (ev_alloc rfl) rfl ?_
    rintro _ _ _ _ ⟨rfl, b7, rfl, rfl⟩
    refine oN (ev_store rfl rfl .agg rfl rfl (lay_all (zs := zSent) rfl) hones .here) rfl ?_
    rintro _ _ _ _ ⟨rfl, _, rfl⟩
    repeat (first|refine zJ rfl rfl ?_|refine jr rfl ?_|refine jn ?_|refine zM rfl rfl ?_|(refine zC rfl rfl ?_ rfl ?_;omega)|(refine zD rfl rfl ?_ rfl ?_;omega)|(refine zP rfl ?_ rfl ?_;omega)|refine zG rfl rfl rfl rfl ?_|(refine jdq rfl rfl ?_ ?_ ?_;kernel_rfl;kernel_rfl)|refine zB rfl rfl rfl (by repeat constructor) rfl ?_|refine zH .here rfl rfl rfl rfl ?_|refine zH (.there .here) rfl rfl rfl rfl ?_|refine zH (.there (.there .here)) rfl rfl rfl rfl ?_|refine zH (.there (.there (.there .here))) rfl rfl rfl rfl ?_|refine zH (.there (.there (.there (.there .here)))) rfl rfl rfl rfl ?_)
    refine oS (ev_load_agg (cs := [.int .i64 x.from_, .int .i64 x.to, .int .i64 x.kind, .int .i64 x.mf, vb, vt]) rfl rfl (Rdb.ofB (n := 0) .here rfl) rfl) rfl ?_
    refine oPF rfl (hkey x _ F2 hok) hfk rfl rfl ?_
    refine oS (ev_lookup (K := keyP) (a := key x) (zv := cv (0, 0)) (r := cv (tot (at_ key (key x)) (xs.take i))) rfl rfl rfl rfl (.there .here) (cntM_getD key xs (key x) hi).symm) rfl ?_
    obtain ⟨m, sz, hm⟩ : ∃ m sz, tot (at_ key (key x)) (xs.take i) = (m, sz) := ⟨_, _, rfl⟩
    have hbd := tot_le (at_ key (key x)) (xs.take i) fun y hy => hall y (List.mem_of_mem_take hy)
    rw [List.length_take, Nat.min_eq_left hi, hm] at hbd
    dsimp only at hbd
    have hm1 : m ≤ 16384 := by omega
    have hm2 : sz ≤ 655360000 := by omega
    rw [hm]
    unfold cv
    dsimp only
    repeat (first|refine zJ rfl rfl ?_|refine jr rfl ?_|refine jn ?_|refine zM rfl rfl ?_|(refine zC rfl rfl ?_ rfl ?_;omega)|(refine zD rfl rfl ?_ rfl ?_;omega)|(refine zP rfl ?_ rfl ?_;omega)|refine zG rfl rfl rfl rfl ?_|(refine jdq rfl rfl ?_ ?_ ?_;kernel_rfl;kernel_rfl)|refine zB rfl rfl rfl (by repeat constructor) rfl ?_|refine zH .here rfl rfl rfl rfl ?_|refine zH (.there .here) rfl rfl rfl rfl ?_|refine zH (.there (.there .here)) rfl rfl rfl rfl ?_|refine zH (.there (.there (.there .here))) rfl rfl rfl rfl ?_|refine zH (.there (.there (.there (.there .here)))) rfl rfl rfl rfl ?_)
    refine oE (ev_alloc rfl) rfl ?_
    rintro _ _ _ _ ⟨rfl, b9, rfl, rfl⟩
    refine oN (ev_store rfl rfl .agg rfl rfl (lay_all (zs := [.int .i64 0, .int .i64 0]) rfl) (by (repeat (first | exact ones_nil | refine ones_cons rfl ?_))) .here) rfl ?_
    rintro _ _ _ _ ⟨rfl, _, rfl⟩
    repeat (first|refine zJ rfl rfl ?_|refine jr rfl ?_|refine jn ?_|refine zM rfl rfl ?_|(refine zC rfl rfl ?_ rfl ?_;omega)|(refine zD rfl rfl ?_ rfl ?_;omega)|(refine zP rfl ?_ rfl ?_;omega)|refine zG rfl rfl rfl rfl ?_|(refine jdq rfl rfl ?_ ?_ ?_;kernel_rfl;kernel_rfl)|refine zB rfl rfl rfl (by repeat constructor) rfl ?_|refine zH .here rfl rfl rfl rfl ?_|refine zH (.there .here) rfl rfl rfl rfl ?_|refine zH (.there (.there .here)) rfl rfl rfl rfl ?_|refine zH (.there (.there (.there .here))) rfl rfl rfl rfl ?_|refine zH (.there (.there (.there (.there .here)))) rfl rfl rfl rfl ?_)
    refine oN (ev_store rfl rfl .int rfl rfl (.put .nil) (ones_cons rfl ones_nil) .here) rfl ?_
    rintro _ _ _ _ ⟨rfl, _, rfl⟩
    repeat (first|refine zJ rfl rfl ?_|refine jr rfl ?_|refine jn ?_|refine zM rfl rfl ?_|(refine zC rfl rfl ?_ rfl ?_;omega)|(refine zD rfl rfl ?_ rfl ?_;omega)|(refine zP rfl ?_ rfl ?_;omega)|refine zG rfl rfl rfl rfl ?_|(refine jdq rfl rfl ?_ ?_ ?_;kernel_rfl;kernel_rfl)|refine zB rfl rfl rfl (by repeat constructor) rfl ?_|refine zH .here rfl rfl rfl rfl ?_|refine zH (.there .here) rfl rfl rfl rfl ?_|refine zH (.there (.there .here)) rfl rfl rfl rfl ?_|refine zH (.there (.there (.there .here))) rfl rfl rfl rfl ?_|refine zH (.there (.there (.there (.there .here)))) rfl rfl rfl rfl ?_)
    have hwl : ∀ ku fu, (wireB ku fu x.body x.tags).length = x.size := fun ku fu => by
      unfold SentX.size wireB wireP
      rw [List.length_append, List.length_append, List.length_append, List.length_append, List.length_append, put1_len, put1_len, put4_len, put2_len, flatten_len ht.2]
      omega
    obtain ⟨ku, hku, hku2⟩ := wrap_nat x.kind
    obtain ⟨fu, hfu, hfu2⟩ := wrap_nat x.mf
    refine J_join (ι := Unit) [_] (fun _ => True) (fun _ => [(0, pc), (1, fnV fk []), (5, .map (some bm)), (12, .int .i64 xs.length), (13, .int .i64 i), (7, .pointer (some ⟨b7, 0, none⟩)), (9, .pointer (some ⟨b9, 0, none⟩))]) (fun _ => F2) (fun _ => blk b9 38 [.int .i64 (m + 1), .int .i64 (sz + x.size)] :: blk b7 49 [.int .i64 x.from_, .int .i64 x.to, .int .i64 x.kind, .int .i64 x.mf, vb, vt] :: mp keyP bm (cntM key xs i) :: (H2 ++ X)) ?_ ?_
    · show J _ (_ :: _) _ _ _
      refine ja F2 [blk b7 49 [.int .i64 x.from_, .int .i64 x.to, .int .i64 x.kind, .int .i64 x.mf, vb, vt]] ?_ ?_ ?_; kernel_rfl
      · exact fun w s => (s.pick (.there .here)).head
      refine aT 0 rfl (ev_qe rfl) rfl rfl ?_ ?_ ?_ ?_; kernel_rfl; kernel_rfl; kernel_rfl
      refine aT 2 rfl (ev_qe rfl) rfl rfl ?_ ?_ ?_ ?_; kernel_rfl; kernel_rfl; kernel_rfl
      refine aT 3 rfl (ev_qe rfl) rfl rfl ?_ ?_ ?_ ?_; kernel_rfl; kernel_rfl; kernel_rfl
      refine aT 4 rfl (ev_load_agg (cs := msgC x.kind x.mf vb vt) rfl rfl (Rdb.ofB (n := 2) .here rfl) rfl) rfl rfl ?_ ?_ ?_ ?_; kernel_rfl; kernel_rfl; kernel_rfl
      refine aB2 (i := 1) (i' := 5) (by kernel_rfl) ?_ ?_
      · refine aV rfl (ev_load (v := .int .i64 sz) rfl rfl (Rdb.ofB (n := 1) .here rfl)) rfl rfl ?_
        refine aB (i := 5) (by kernel_rfl) (aC (Hc := []) (Hr := blk b9 38 [.int .i64 (m + 1), .int .i64 sz] :: blk b7 49 [.int .i64 x.from_, .int .i64 x.to, .int .i64 x.kind, .int .i64 x.mf, vb, vt] :: mp keyP bm (cntM key xs i) :: (H2 ++ X)) rfl (bytes_spec x.kind x.mf vb vt x.body x.tags ku fu F2 hb ht (by omega) (by omega) hku hfu hku2 hfu2) Tryd.call34 rfl rfl rfl (fun _ s => s) ?_ ?_)
        · rintro v F3 _ hF3 rfl w s
          exact (s.pick (.there (.there .here))).head.mono hF3
        rintro u F3 _ hF3 rfl
        refine aOwn .here fun au cu hu' _ _ _ => ?_
        subst hu'
        refine aWeak (F' := F2) (H' := blk b9 38 [.int .i64 (m + 1), .int .i64 sz] :: blk b7 49 [.int .i64 x.from_, .int .i64 x.to, .int .i64 x.kind, .int .i64 x.mf, vb, vt] :: mp keyP bm (cntM key xs i) :: (H2 ++ X)) ?_ (fun w s => (s.pick (.there .here)).head) (fun w s => s.drop.mono hF3)
        rw [hwl]
        refine aT 6 rfl (ev_qe rfl) rfl rfl ?_ ?_ ?_ ?_; kernel_rfl; kernel_rfl; kernel_rfl
        refine aT 7 rfl (ev_add (m := sz) (n := x.size) rfl rfl (by dsimp only [InK]; omega)) rfl rfl ?_ ?_ ?_ ?_; kernel_rfl; kernel_rfl; kernel_rfl
        refine aT 8 rfl (ev_qe rfl) rfl rfl ?_ ?_ ?_ ?_; kernel_rfl; kernel_rfl; kernel_rfl
        refine aB (i := 9) (by kernel_rfl) (aN rfl (ev_store rfl rfl .int rfl rfl (.skip (.put .nil)) (ones_cons rfl ones_nil) .here) rfl ?_ ?_)
        · rintro _ _ _ _ ⟨rfl, _, rfl⟩ w s
          exact (s.pick (.there .here)).head
        rintro _ _ _ _ ⟨rfl, _, rfl⟩
        refine aD (by kernel_rfl) ?_
        exact J_joined () trivial ⟨⟨rfl, rfl, rfl, rfl, rfl, rfl, rfl, trivial⟩, fun w s => s⟩
      refine (aC (Hc := []) (Hr := blk b9 38 [.int .i64 (m + 1), .int .i64 sz] :: blk b7 49 [.int .i64 x.from_, .int .i64 x.to, .int .i64 x.kind, .int .i64 x.mf, vb, vt] :: mp keyP bm (cntM key xs i) :: (H2 ++ X)) rfl (bytes_spec x.kind x.mf vb vt x.body x.tags ku fu F2 hb ht (by omega) (by omega) hku hfu hku2 hfu2) Tryd.call34 rfl rfl rfl (fun _ s => s) ?_ ?_)
      · rintro v F3 _ hF3 rfl w s
        exact (s.pick (.there (.there .here))).head.mono hF3
      rintro u F3 _ hF3 rfl
      refine aOwn .here fun au cu hu' _ _ _ => ?_
      subst hu'
      refine aWeak (F' := F2) (H' := blk b9 38 [.int .i64 (m + 1), .int .i64 sz] :: blk b7 49 [.int .i64 x.from_, .int .i64 x.to, .int .i64 x.kind, .int .i64 x.mf, vb, vt] :: mp keyP bm (cntM key xs i) :: (H2 ++ X)) ?_ (fun w s => (s.pick (.there .here)).head) (fun w s => s.drop.mono hF3)
      rw [hwl]
      refine aT 6 rfl (ev_qe rfl) rfl rfl ?_ ?_ ?_ ?_; kernel_rfl; kernel_rfl; kernel_rfl
      refine aB (i := 1) (by kernel_rfl) (aV rfl (ev_load (v := .int .i64 sz) rfl rfl (Rdb.ofB (n := 1) .here rfl)) rfl rfl ?_)
      refine aT 7 rfl (ev_add (m := sz) (n := x.size) rfl rfl (by dsimp only [InK]; omega)) rfl rfl ?_ ?_ ?_ ?_; kernel_rfl; kernel_rfl; kernel_rfl
      refine aT 8 rfl (ev_qe rfl) rfl rfl ?_ ?_ ?_ ?_; kernel_rfl; kernel_rfl; kernel_rfl
      refine aB (i := 9) (by kernel_rfl) (aN rfl (ev_store rfl rfl .int rfl rfl (.skip (.put .nil)) (ones_cons rfl ones_nil) .here) rfl ?_ ?_)
      · rintro _ _ _ _ ⟨rfl, _, rfl⟩ w s
        exact (s.pick (.there .here)).head
      rintro _ _ _ _ ⟨rfl, _, rfl⟩
      refine aD (by kernel_rfl) ?_
      exact J_joined () trivial ⟨⟨rfl, rfl, rfl, rfl, rfl, rfl, rfl, trivial⟩, fun w s => s⟩
    intro _ _
    repeat (first|refine zJ rfl rfl ?_|refine jr rfl ?_|refine jn ?_|refine zM rfl rfl ?_|(refine zC rfl rfl ?_ rfl ?_;omega)|(refine zD rfl rfl ?_ rfl ?_;omega)|(refine zP rfl ?_ rfl ?_;omega)|refine zG rfl rfl rfl rfl ?_|(refine jdq rfl rfl ?_ ?_ ?_;kernel_rfl;kernel_rfl)|refine zB rfl rfl rfl (by repeat constructor) rfl ?_|refine zH .here rfl rfl rfl rfl ?_|refine zH (.there .here) rfl rfl rfl rfl ?_|refine zH (.there (.there .here)) rfl rfl rfl rfl ?_|refine zH (.there (.there (.there .here))) rfl rfl rfl rfl ?_|refine zH (.there (.there (.there (.there .here)))) rfl rfl rfl rfl ?_)
    refine jdl rfl ?_ ?_ ?_ ?_; kernel_rfl; kernel_rfl; kernel_rfl; dsimp only [List.dropLast]
    repeat (first|refine zJ rfl rfl ?_|refine jr rfl ?_|refine jn ?_|refine zM rfl rfl ?_|(refine zC rfl rfl ?_ rfl ?_;omega)|(refine zD rfl rfl ?_ rfl ?_;omega)|(refine zP rfl ?_ rfl ?_;omega)|refine zG rfl rfl rfl rfl ?_|(refine jdq rfl rfl ?_ ?_ ?_;kernel_rfl;kernel_rfl)|refine zB rfl rfl rfl (by repeat constructor) rfl ?_|refine zH .here rfl rfl rfl rfl ?_|refine zH (.there .here) rfl rfl rfl rfl ?_|refine zH (.there (.there .here)) rfl rfl rfl rfl ?_|refine zH (.there (.there (.there .here))) rfl rfl rfl rfl ?_|refine zH (.there (.there (.there (.there .here)))) rfl rfl rfl rfl ?_)
    refine oS (ev_load_agg (cs := [.int .i64 x.from_, .int .i64 x.to, .int .i64 x.kind, .int .i64 x.mf, vb, vt]) rfl rfl (Rdb.ofB (n := 0) (.there .here) rfl) rfl) rfl ?_
    refine oPF rfl (hkey x _ F2 hok) hfk rfl rfl ?_
    refine oS (ev_load_agg (cs := [.int .i64 (m + 1), .int .i64 (sz + x.size)]) rfl rfl (Rdb.ofB (n := 0) .here rfl) rfl) rfl ?_
    refine jn ?_
    refine jL rfl ?_
    refine oN (ev_mapUpdate (K := keyP) (M := cntM key xs i) (a := key x) rfl rfl rfl rfl (.there (.there .here))) rfl ?_
    rintro _ _ _ _ ⟨rfl, _, rfl⟩
    repeat (first|refine zJ rfl rfl ?_|refine jr rfl ?_|refine jn ?_|refine zM rfl rfl ?_|(refine zC rfl rfl ?_ rfl ?_;omega)|(refine zD rfl rfl ?_ rfl ?_;omega)|(refine zP rfl ?_ rfl ?_;omega)|refine zG rfl rfl rfl rfl ?_|(refine jdq rfl rfl ?_ ?_ ?_;kernel_rfl;kernel_rfl)|refine zB rfl rfl rfl (by repeat constructor) rfl ?_|refine zH .here rfl rfl rfl rfl ?_|refine zH (.there .here) rfl rfl rfl rfl ?_|refine zH (.there (.there .here)) rfl rfl rfl rfl ?_|refine zH (.there (.there (.there .here))) rfl rfl rfl rfl ?_|refine zH (.there (.there (.there (.there .here)))) rfl rfl rfl rfl ?_)
    have hnext : setK (cntM key xs i) (key x) (.agg #[.int .i64 (m + 1), .int .i64 (sz + x.size)]) = cntM key xs (i + 1) := by
      rw [cntM_succ hx, take_snoc' hx, tot_snoc, hm, if_pos (by simp [at_])]
      unfold cv
      simp
    refine J_again (i + 1) (by omega) (by omega) ⟨⟨rfl, rfl, rfl, rfl, rfl, trivial⟩, fun w s => ?_⟩
    rw [← hnext]
    exact s.drop.drop.mono hF2
  · obtain rfl : i = xs.length := by omega
    repeat (first|refine zJ rfl rfl ?_|refine jr rfl ?_|refine jn ?_|refine zM rfl rfl ?_|(refine zC rfl rfl ?_ rfl ?_;omega)|(refine zD rfl rfl ?_ rfl ?_;omega)|(refine zP rfl ?_ rfl ?_;omega)|refine zG rfl rfl rfl rfl ?_|(refine jdq rfl rfl ?_ ?_ ?_;kernel_rfl;kernel_rfl)|refine zB rfl rfl rfl (by repeat constructor) rfl ?_|refine zH .here rfl rfl rfl rfl ?_|refine zH (.there .here) rfl rfl rfl rfl ?_|refine zH (.there (.there .here)) rfl rfl rfl rfl ?_|refine zH (.there (.there (.there .here))) rfl rfl rfl rfl ?_|refine zH (.there (.there (.there (.there .here)))) rfl rfl rfl rfl ?_)
    exact J_ret1 rfl rfl (mp keyP bm (cntM key xs xs.length) :: H1) rfl (PH.ler _) ⟨bm, rfl, rfl⟩
end Go.Proofs.YtmicjjhkoicdnaaDoor
namespace Go.Proofs.YtmicjjhkoicdnaaDoor
open Go.RowKit
set_option maxRecDepth 100000
theorem keyAll_spec (x : SentX) (row : List Value) (G : PH) (h : SentOk G x row) : Pure Tryd.prog 27 [.agg row.toArray] G (keyB.val true) := by
  obtain ⟨vb, vt, rfl, hb, ht, _⟩ := h
  unfold sentC
  refine Spec.of1 Tryd.func27 rfl rfl fun X w0 => ?_
  repeat (first|refine zJ rfl rfl ?_|refine jr rfl ?_|refine jn ?_|refine zM rfl rfl ?_|(refine zC rfl rfl ?_ rfl ?_;omega)|(refine zD rfl rfl ?_ rfl ?_;omega)|(refine zP rfl ?_ rfl ?_;omega)|refine zG rfl rfl rfl rfl ?_|(refine jdq rfl rfl ?_ ?_ ?_;kernel_rfl;kernel_rfl)|refine zB rfl rfl rfl (by repeat constructor) rfl ?_|refine zH .here rfl rfl rfl rfl ?_|refine zH (.there .here) rfl rfl rfl rfl ?_|refine zH (.there (.there .here)) rfl rfl rfl rfl ?_|refine zH (.there (.there (.there .here))) rfl rfl rfl rfl ?_|refine zH (.there (.there (.there (.there .here)))) rfl rfl rfl rfl ?_)
  refine oE (ev_box rfl .agg) rfl ?_; rintro _ _ _ _ ⟨rfl, b1, rfl, rfl⟩
  repeat (first|refine zJ rfl rfl ?_|refine jr rfl ?_|refine jn ?_|refine zM rfl rfl ?_|(refine zC rfl rfl ?_ rfl ?_;omega)|(refine zD rfl rfl ?_ rfl ?_;omega)|(refine zP rfl ?_ rfl ?_;omega)|refine zG rfl rfl rfl rfl ?_|(refine jdq rfl rfl ?_ ?_ ?_;kernel_rfl;kernel_rfl)|refine zB rfl rfl rfl (by repeat constructor) rfl ?_|refine zH .here rfl rfl rfl rfl ?_|refine zH (.there .here) rfl rfl rfl rfl ?_|refine zH (.there (.there .here)) rfl rfl rfl rfl ?_|refine zH (.there (.there (.there .here))) rfl rfl rfl rfl ?_|refine zH (.there (.there (.there (.there .here)))) rfl rfl rfl rfl ?_)
  exact J_retv rfl (.tmp rfl .nil) [] (fun w s => s.drop) (PH.ler _) ⟨rfl, rfl⟩
def pairK (x : SentX) : Int × Int := (x.from_, x.to)
theorem keyPair_spec (x : SentX) (row : List Value) (G : PH) (h : SentOk G x row) : Pure Tryd.prog 29 [.agg row.toArray] G (keyP.val (pairK x)) := by
  obtain ⟨vb, vt, rfl, hb, ht, _⟩ := h
  unfold sentC
  refine Spec.of1 Tryd.func29 rfl rfl fun X w0 => ?_
  repeat (first|refine zJ rfl rfl ?_|refine jr rfl ?_|refine jn ?_|refine zM rfl rfl ?_|(refine zC rfl rfl ?_ rfl ?_;omega)|(refine zD rfl rfl ?_ rfl ?_;omega)|(refine zP rfl ?_ rfl ?_;omega)|refine zG rfl rfl rfl rfl ?_|(refine jdq rfl rfl ?_ ?_ ?_;kernel_rfl;kernel_rfl)|refine zB rfl rfl rfl (by repeat constructor) rfl ?_|refine zH .here rfl rfl rfl rfl ?_|refine zH (.there .here) rfl rfl rfl rfl ?_|refine zH (.there (.there .here)) rfl rfl rfl rfl ?_|refine zH (.there (.there (.there .here))) rfl rfl rfl rfl ?_|refine zH (.there (.there (.there (.there .here)))) rfl rfl rfl rfl ?_)
  refine oE (ev_box rfl .agg) rfl ?_; rintro _ _ _ _ ⟨rfl, b1, rfl, rfl⟩
  repeat (first|refine zJ rfl rfl ?_|refine jr rfl ?_|refine jn ?_|refine zM rfl rfl ?_|(refine zC rfl rfl ?_ rfl ?_;omega)|(refine zD rfl rfl ?_ rfl ?_;omega)|(refine zP rfl ?_ rfl ?_;omega)|refine zG rfl rfl rfl rfl ?_|(refine jdq rfl rfl ?_ ?_ ?_;kernel_rfl;kernel_rfl)|refine zB rfl rfl rfl (by repeat constructor) rfl ?_|refine zH .here rfl rfl rfl rfl ?_|refine zH (.there .here) rfl rfl rfl rfl ?_|refine zH (.there (.there .here)) rfl rfl rfl rfl ?_|refine zH (.there (.there (.there .here))) rfl rfl rfl rfl ?_|refine zH (.there (.there (.there (.there .here)))) rfl rfl rfl rfl ?_)
  refine oE (ev_alloc rfl) rfl ?_
  rintro _ _ _ _ ⟨rfl, b2, rfl, rfl⟩
  repeat (first|refine zJ rfl rfl ?_|refine jr rfl ?_|refine jn ?_|refine zM rfl rfl ?_|(refine zC rfl rfl ?_ rfl ?_;omega)|(refine zD rfl rfl ?_ rfl ?_;omega)|(refine zP rfl ?_ rfl ?_;omega)|refine zG rfl rfl rfl rfl ?_|(refine jdq rfl rfl ?_ ?_ ?_;kernel_rfl;kernel_rfl)|refine zB rfl rfl rfl (by repeat constructor) rfl ?_|refine zH .here rfl rfl rfl rfl ?_|refine zH (.there .here) rfl rfl rfl rfl ?_|refine zH (.there (.there .here)) rfl rfl rfl rfl ?_|refine zH (.there (.there (.there .here))) rfl rfl rfl rfl ?_|refine zH (.there (.there (.there (.there .here)))) rfl rfl rfl rfl ?_)
  refine oS (ev_buildArr (t := [.int .i64 x.from_, .int .i64 x.to]) rfl rfl rfl ?_) rfl ?_
  · repeat (first | exact FillS.nil | refine FillS.cons (by constructor) rfl (by repeat constructor) ?_)
  refine oN (ev_store (vs := [.int .i64 x.from_, .int .i64 x.to]) rfl rfl .agg rfl rfl (lay_all (zs := [.int .i64 0, .int .i64 0]) rfl) (by (repeat (first | exact ones_nil | refine ones_cons rfl ?_))) .here) rfl ?_
  rintro _ _ _ _ ⟨rfl, _, rfl⟩
  repeat (first|refine zJ rfl rfl ?_|refine jr rfl ?_|refine jn ?_|refine zM rfl rfl ?_|(refine zC rfl rfl ?_ rfl ?_;omega)|(refine zD rfl rfl ?_ rfl ?_;omega)|(refine zP rfl ?_ rfl ?_;omega)|refine zG rfl rfl rfl rfl ?_|(refine jdq rfl rfl ?_ ?_ ?_;kernel_rfl;kernel_rfl)|refine zB rfl rfl rfl (by repeat constructor) rfl ?_|refine zH .here rfl rfl rfl rfl ?_|refine zH (.there .here) rfl rfl rfl rfl ?_|refine zH (.there (.there .here)) rfl rfl rfl rfl ?_|refine zH (.there (.there (.there .here))) rfl rfl rfl rfl ?_|refine zH (.there (.there (.there (.there .here)))) rfl rfl rfl rfl ?_)
  exact J_retv (vs := [pairV (x.from_, x.to)]) rfl (.agg (cs := [.int .i64 x.from_, .int .i64 x.to]) rfl rfl (Rdb.ofB (n := 0) .here rfl) rfl .nil) [] (fun w s => s.drop.drop) (PH.ler _) ⟨rfl, rfl⟩
def allQ : SentX → Bool := at_ (fun _ => true) true
theorem all_spec (pc : Value) (HC : List Asrt) (xs : List SentX) (F : PH) (hC : Crw F pc HC xs) :
    Spec Tryd.prog 15 [pc] F HC fun u _ H' => u = .agg (cvC (tot allQ xs)).toArray ∧ H' = HC := by
  refine Spec.of1 Tryd.func15 rfl rfl fun X w0 => ?_
  repeat (first|refine zJ rfl rfl ?_|refine jr rfl ?_|refine jn ?_|refine zM rfl rfl ?_|(refine zC rfl rfl ?_ rfl ?_;omega)|(refine zD rfl rfl ?_ rfl ?_;omega)|(refine zP rfl ?_ rfl ?_;omega)|refine zG rfl rfl rfl rfl ?_|(refine jdq rfl rfl ?_ ?_ ?_;kernel_rfl;kernel_rfl)|refine zB rfl rfl rfl (by repeat constructor) rfl ?_|refine zH .here rfl rfl rfl rfl ?_|refine zH (.there .here) rfl rfl rfl rfl ?_|refine zH (.there (.there .here)) rfl rfl rfl rfl ?_|refine zH (.there (.there (.there .here))) rfl rfl rfl rfl ?_|refine zH (.there (.there (.there (.there .here)))) rfl rfl rfl rfl ?_)
  refine oE (ev_alloc rfl) rfl ?_
  rintro _ _ _ _ ⟨rfl, b2, rfl, rfl⟩
  repeat (first|refine zJ rfl rfl ?_|refine jr rfl ?_|refine jn ?_|refine zM rfl rfl ?_|(refine zC rfl rfl ?_ rfl ?_;omega)|(refine zD rfl rfl ?_ rfl ?_;omega)|(refine zP rfl ?_ rfl ?_;omega)|refine zG rfl rfl rfl rfl ?_|(refine jdq rfl rfl ?_ ?_ ?_;kernel_rfl;kernel_rfl)|refine zB rfl rfl rfl (by repeat constructor) rfl ?_|refine zH .here rfl rfl rfl rfl ?_|refine zH (.there .here) rfl rfl rfl rfl ?_|refine zH (.there (.there .here)) rfl rfl rfl rfl ?_|refine zH (.there (.there (.there .here))) rfl rfl rfl rfl ?_|refine zH (.there (.there (.there (.there .here)))) rfl rfl rfl rfl ?_)
  refine oC (Hc := HC) (Hr := blk b2 38 (cvC (0, 0)) :: X) (countB_spec pc HC xs 27 (fun _ => true) F hC Tryd.call27 (fun x row G h => keyAll_spec x row G h)) Tryd.call26 rfl rfl (fun _ s => Sat.front (A := [_]) s) ?_
  rintro _ F1 _ hF1 ⟨bm, rfl, rfl⟩
  refine oS (ev_lookup (K := keyB) (a := true) (zv := cv (0, 0)) (r := cv (tot allQ xs)) rfl rfl rfl rfl .here (by have := cntM_getD (fun _ : SentX => true) xs true (Nat.le_refl _); rw [List.take_length] at this; exact this.symm)) rfl ?_
  refine oW (F' := F1) (H' := blk b2 38 (cvC (0, 0)) :: (HC ++ X)) ?_ (fun w s => Sat.front (A := HC) (B := [_]) s.drop)
  refine oN (ev_store (vs := cvC (tot allQ xs)) rfl rfl .agg rfl rfl (lay_all (zs := cvC (0, 0)) rfl) (ones_cvC _) .here) rfl ?_
  rintro _ _ _ _ ⟨rfl, _, rfl⟩
  repeat (first|refine zJ rfl rfl ?_|refine jr rfl ?_|refine jn ?_|refine zM rfl rfl ?_|(refine zC rfl rfl ?_ rfl ?_;omega)|(refine zD rfl rfl ?_ rfl ?_;omega)|(refine zP rfl ?_ rfl ?_;omega)|refine zG rfl rfl rfl rfl ?_|(refine jdq rfl rfl ?_ ?_ ?_;kernel_rfl;kernel_rfl)|refine zB rfl rfl rfl (by repeat constructor) rfl ?_|refine zH .here rfl rfl rfl rfl ?_|refine zH (.there .here) rfl rfl rfl rfl ?_|refine zH (.there (.there .here)) rfl rfl rfl rfl ?_|refine zH (.there (.there (.there .here))) rfl rfl rfl rfl ?_|refine zH (.there (.there (.there (.there .here)))) rfl rfl rfl rfl ?_)
  exact J_retv (vs := [.agg (cvC (tot allQ xs)).toArray]) rfl (.agg (cs := cvC (tot allQ xs)) rfl rfl (Rdb.ofB (n := 0) .here rfl) rfl .nil) HC (fun w s => s.drop) hF1 ⟨rfl, rfl⟩
theorem byPair_spec (pc : Value) (HC : List Asrt) (xs : List SentX) (F : PH) (hC : Crw F pc HC xs) :
    Spec Tryd.prog 16 [pc] F HC fun u _ H' => ∃ bm, u = .map (some bm) ∧ H' = mp keyP bm (cntM pairK xs xs.length) :: HC := by
  refine Spec.of1 Tryd.func16 rfl rfl fun X w0 => ?_
  repeat (first|refine zJ rfl rfl ?_|refine jr rfl ?_|refine jn ?_|refine zM rfl rfl ?_|(refine zC rfl rfl ?_ rfl ?_;omega)|(refine zD rfl rfl ?_ rfl ?_;omega)|(refine zP rfl ?_ rfl ?_;omega)|refine zG rfl rfl rfl rfl ?_|(refine jdq rfl rfl ?_ ?_ ?_;kernel_rfl;kernel_rfl)|refine zB rfl rfl rfl (by repeat constructor) rfl ?_|refine zH .here rfl rfl rfl rfl ?_|refine zH (.there .here) rfl rfl rfl rfl ?_|refine zH (.there (.there .here)) rfl rfl rfl rfl ?_|refine zH (.there (.there (.there .here))) rfl rfl rfl rfl ?_|refine zH (.there (.there (.there (.there .here)))) rfl rfl rfl rfl ?_)
  refine oC (Hc := HC) (Hr := X) (countP_spec pc HC xs 29 pairK F hC Tryd.call29 (fun x row G h => keyPair_spec x row G h)) Tryd.call28 rfl rfl (fun _ s => s) ?_
  rintro _ F1 _ hF1 ⟨bm, rfl, rfl⟩
  repeat (first|refine zJ rfl rfl ?_|refine jr rfl ?_|refine jn ?_|refine zM rfl rfl ?_|(refine zC rfl rfl ?_ rfl ?_;omega)|(refine zD rfl rfl ?_ rfl ?_;omega)|(refine zP rfl ?_ rfl ?_;omega)|refine zG rfl rfl rfl rfl ?_|(refine jdq rfl rfl ?_ ?_ ?_;kernel_rfl;kernel_rfl)|refine zB rfl rfl rfl (by repeat constructor) rfl ?_|refine zH .here rfl rfl rfl rfl ?_|refine zH (.there .here) rfl rfl rfl rfl ?_|refine zH (.there (.there .here)) rfl rfl rfl rfl ?_|refine zH (.there (.there (.there .here))) rfl rfl rfl rfl ?_|refine zH (.there (.there (.there (.there .here)))) rfl rfl rfl rfl ?_)
  exact J_ret1 rfl rfl (mp keyP bm (cntM pairK xs xs.length) :: HC) rfl hF1 ⟨bm, rfl, rfl⟩
/-- Whether one is counted. -/
def ofQ (kind from_ to : Int) (x : SentX) : Bool := !((decide (0 ≤ kind) && !decide (kindK x = kind)) || (decide (0 ≤ from_) && (!decide (x.from_ = from_) || !decide (x.to = to))))
theorem ofQ_iff {kind from_ to : Int} {x : SentX} : ofQ kind from_ to x = true ↔ (kind < 0 ∨ kindK x = kind) ∧ (from_ < 0 ∨ (x.from_ = from_ ∧ x.to = to)) := by
  unfold ofQ
  by_cases a : 0 ≤ kind <;> by_cases b : kindK x = kind <;> by_cases c : 0 ≤ from_ <;> by_cases d : x.from_ = from_ <;> by_cases e : x.to = to <;> simp [a, b, c, d, e] <;> omega
set_option maxHeartbeats 64000000 in
theorem of_spec (v : Value) (xs : List SentX) (rows : List (List Value)) (kind from_ to : Int) (F : PH) (hv : SliceV F 6 v xs.length rows.flatten) (hn : xs.length ≤ 16384) (hl : rows.length = xs.length) (h : ∀ (i : Nat) (x : SentX) (r : List Value), xs[i]? = some x → rows[i]? = some r → SentOk F x r) :
    Spec Tryd.prog 14 [v, .int .i64 kind, .int .i64 from_, .int .i64 to] F [] fun u _ H' => u = .tuple #[.int .i64 (tot (ofQ kind from_ to) xs).1, .int .i64 (tot (ofQ kind from_ to) xs).2] ∧ H' = [] := by
  have h6 : ∀ r ∈ rows, r.length = 6 := fun r hm => by
    obtain ⟨j, hj⟩ := List.mem_iff_getElem?.1 hm
    have hjl := (List.getElem?_eq_some_iff.1 hj).1
    exact (h j _ r (List.getElem?_eq_getElem (by omega)) hj).len
  have hall : ∀ x ∈ xs, x.size ≤ 40000 := fun x hx => by
    obtain ⟨i, hi⟩ := List.mem_iff_getElem?.1 hx
    have hil := (List.getElem?_eq_some_iff.1 hi).1
    obtain ⟨_, _, _, _, _, h1, h2⟩ := h i x _ hi (List.getElem?_eq_getElem (by omega))
    unfold SentX.size; omega
  obtain ⟨_, a, c, rfl, hnc, _⟩ := id hv
  refine Spec.of4 Tryd.func14 rfl rfl fun X w0 => ?_
  repeat (first|refine zJ rfl rfl ?_|refine jr rfl ?_|refine jn ?_|refine zM rfl rfl ?_|(refine zC rfl rfl ?_ rfl ?_;omega)|(refine zD rfl rfl ?_ rfl ?_;omega)|(refine zP rfl ?_ rfl ?_;omega)|refine zG rfl rfl rfl rfl ?_|(refine jdq rfl rfl ?_ ?_ ?_;kernel_rfl;kernel_rfl)|refine zB rfl rfl rfl (by repeat constructor) rfl ?_|refine zH .here rfl rfl rfl rfl ?_|refine zH (.there .here) rfl rfl rfl rfl ?_|refine zH (.there (.there .here)) rfl rfl rfl rfl ?_|refine zH (.there (.there (.there .here))) rfl rfl rfl rfl ?_|refine zH (.there (.there (.there (.there .here)))) rfl rfl rfl rfl ?_)
  refine J_loop (ι := Nat) (fun i => i ≤ xs.length) (fun i => xs.length - i) (fun i => [(1, .int .i64 kind), (2, .int .i64 from_), (3, .int .i64 to), (10, .int .i64 (tot (ofQ kind from_ to) (xs.take i)).1), (11, .int .i64 (tot (ofQ kind from_ to) (xs.take i)).2), (15, .slice a xs.length c), (16, .int .i64 xs.length), (17, .int .i64 i)]) (fun _ => F)
    (fun _ => X) 0 (Nat.zero_le _) ⟨⟨rfl, rfl, rfl, rfl, rfl, rfl, rfl, rfl, trivial⟩, fun w s => s⟩ ?_
  intro i hi
  by_cases hlt : i < xs.length
  · have hx : xs[i]? = some xs[i] := List.getElem?_eq_getElem hlt
    have hr : rows[i]? = some rows[i] := List.getElem?_eq_getElem (by omega)
    have hok := h i _ _ hx hr
    obtain ⟨bb, off, rfl, hcc⟩ := hv.row h6 hr (by omega)
    generalize xs[i] = x at hx hok
    generalize rows[i] = row at *
    have hones := hok.ones
    have hsz := hall x (List.mem_of_getElem? hx)
    obtain ⟨vb, vt, rfl, hb, ht, hb1, ht1⟩ := hok
    unfold sentC at hones hcc
    have hnext := tot_snoc (ofQ kind from_ to) (xs.take i) x
    rw [← take_snoc' hx] at hnext
    have hbd := tot_le (ofQ kind from_ to) (xs.take i) fun y hy => hall y (List.mem_of_mem_take hy)
    rw [List.length_take, Nat.min_eq_left hi] at hbd
    generalize hgt : tot (ofQ kind from_ to) (xs.take (i + 1)) = t' at hnext
    generalize tot (ofQ kind from_ to) (xs.take i) = t at *
    obtain ⟨m, z⟩ := t
    dsimp only at hbd hnext ⊢
    repeat (first|refine zJ rfl rfl ?_|refine jr rfl ?_|refine jn ?_|refine zM rfl rfl ?_|(refine zC rfl rfl ?_ rfl ?_;omega)|(refine zD rfl rfl ?_ rfl ?_;omega)|(refine zP rfl ?_ rfl ?_;omega)|refine zG rfl rfl rfl rfl ?_|(refine jdq rfl rfl ?_ ?_ ?_;kernel_rfl;kernel_rfl)|refine zB rfl rfl rfl (by repeat constructor) rfl ?_|refine zH .here rfl rfl rfl rfl ?_|refine zH (.there .here) rfl rfl rfl rfl ?_|refine zH (.there (.there .here)) rfl rfl rfl rfl ?_|refine zH (.there (.there (.there .here))) rfl rfl rfl rfl ?_|refine zH (.there (.there (.there (.there .here)))) rfl rfl rfl rfl ?_)
    refine oS (ev_indexAddr rfl rfl rfl hlt) rfl ?_
    refine oS (ev_load_agg (cs := [.int .i64 x.from_, .int .i64 x.to, .int .i64 x.kind, .int .i64 x.mf, vb, vt]) rfl rfl (Rdb.ofF hcc) rfl) rfl ?_
    refine oE (ev_alloc rfl) rfl ?_
    rintro _ _ _ _ ⟨rfl, b13, rfl, rfl⟩
    refine oN (ev_store rfl rfl .agg rfl rfl (lay_all (zs := zSent) rfl) hones .here) rfl ?_
    rintro _ _ _ _ ⟨rfl, _, rfl⟩
    have hwl : ∀ ku fu, (wireB ku fu x.body x.tags).length = x.size := fun ku fu => by
      unfold SentX.size wireB wireP
      rw [List.length_append, List.length_append, List.length_append, List.length_append, List.length_append, put1_len, put1_len, put4_len, put2_len, flatten_len ht.2]
      omega
    obtain ⟨ku, hku, hku2⟩ := wrap_nat x.kind
    obtain ⟨fu, hfu, hfu2⟩ := wrap_nat x.mf
    by_cases a0 : x.kind < 1
    · have hk : kindK x = 0 := by unfold kindK; rw [if_pos (.inl a0)]
      by_cases k0 : 0 ≤ kind
      · by_cases k1 : kindK x = kind
        · by_cases f0 : 0 ≤ from_
          · by_cases f1 : x.from_ = from_
            · by_cases f2 : x.to = to
              · rw [if_pos (ofQ_iff.2 ⟨by omega, by omega⟩)] at hnext
                repeat (first|refine zJ rfl rfl ?_|refine jr rfl ?_|refine jn ?_|refine zM rfl rfl ?_|(refine zC rfl rfl ?_ rfl ?_;omega)|(refine zD rfl rfl ?_ rfl ?_;omega)|(refine zP rfl ?_ rfl ?_;omega)|refine zG rfl rfl rfl rfl ?_|(refine jdq rfl rfl ?_ ?_ ?_;kernel_rfl;kernel_rfl)|refine zB rfl rfl rfl (by repeat constructor) rfl ?_|refine zH .here rfl rfl rfl rfl ?_|refine zH (.there .here) rfl rfl rfl rfl ?_|refine zH (.there (.there .here)) rfl rfl rfl rfl ?_|refine zH (.there (.there (.there .here))) rfl rfl rfl rfl ?_|refine zH (.there (.there (.there (.there .here)))) rfl rfl rfl rfl ?_)
                refine oS (ev_load_agg (cs := msgC x.kind x.mf vb vt) rfl rfl (Rdb.ofB (n := 2) .here rfl) rfl) rfl ?_
                refine oC (Hc := []) (Hr := blk b13 49 [.int .i64 x.from_, .int .i64 x.to, .int .i64 x.kind, .int .i64 x.mf, vb, vt] :: X) (Bytes_spec x.kind x.mf vb vt x.body x.tags ku fu F hb ht (by omega) (by omega) hku hfu hku2 hfu2) Tryd.call25 rfl rfl (fun _ s => s) ?_
                rintro u5 F3 _ hF3 rfl
                refine oOwn .here fun au cu hu' _ _ _ => ?_
                subst hu'
                rw [hwl]
                repeat (first|refine zJ rfl rfl ?_|refine jr rfl ?_|refine jn ?_|refine zM rfl rfl ?_|(refine zC rfl rfl ?_ rfl ?_;omega)|(refine zD rfl rfl ?_ rfl ?_;omega)|(refine zP rfl ?_ rfl ?_;omega)|refine zG rfl rfl rfl rfl ?_|(refine jdq rfl rfl ?_ ?_ ?_;kernel_rfl;kernel_rfl)|refine zB rfl rfl rfl (by repeat constructor) rfl ?_|refine zH .here rfl rfl rfl rfl ?_|refine zH (.there .here) rfl rfl rfl rfl ?_|refine zH (.there (.there .here)) rfl rfl rfl rfl ?_|refine zH (.there (.there (.there .here))) rfl rfl rfl rfl ?_|refine zH (.there (.there (.there (.there .here)))) rfl rfl rfl rfl ?_)
                exact J_again (i + 1) (by omega) (by omega) (by rw [hgt, hnext]; exact ⟨⟨rfl, rfl, rfl, rfl, rfl, rfl, rfl, rfl, trivial⟩, fun w s => s.drop.drop.mono hF3⟩)
              · rw [if_neg (fun hq => by have := ofQ_iff.1 hq; omega)] at hnext
                repeat (first|refine zJ rfl rfl ?_|refine jr rfl ?_|refine jn ?_|refine zM rfl rfl ?_|(refine zC rfl rfl ?_ rfl ?_;omega)|(refine zD rfl rfl ?_ rfl ?_;omega)|(refine zP rfl ?_ rfl ?_;omega)|refine zG rfl rfl rfl rfl ?_|(refine jdq rfl rfl ?_ ?_ ?_;kernel_rfl;kernel_rfl)|refine zB rfl rfl rfl (by repeat constructor) rfl ?_|refine zH .here rfl rfl rfl rfl ?_|refine zH (.there .here) rfl rfl rfl rfl ?_|refine zH (.there (.there .here)) rfl rfl rfl rfl ?_|refine zH (.there (.there (.there .here))) rfl rfl rfl rfl ?_|refine zH (.there (.there (.there (.there .here)))) rfl rfl rfl rfl ?_)
                exact J_again (i + 1) (by omega) (by omega) (by rw [hgt, hnext]; exact ⟨⟨rfl, rfl, rfl, rfl, rfl, rfl, rfl, rfl, trivial⟩, fun w s => s.drop⟩)
            · rw [if_neg (fun hq => by have := ofQ_iff.1 hq; omega)] at hnext
              repeat (first|refine zJ rfl rfl ?_|refine jr rfl ?_|refine jn ?_|refine zM rfl rfl ?_|(refine zC rfl rfl ?_ rfl ?_;omega)|(refine zD rfl rfl ?_ rfl ?_;omega)|(refine zP rfl ?_ rfl ?_;omega)|refine zG rfl rfl rfl rfl ?_|(refine jdq rfl rfl ?_ ?_ ?_;kernel_rfl;kernel_rfl)|refine zB rfl rfl rfl (by repeat constructor) rfl ?_|refine zH .here rfl rfl rfl rfl ?_|refine zH (.there .here) rfl rfl rfl rfl ?_|refine zH (.there (.there .here)) rfl rfl rfl rfl ?_|refine zH (.there (.there (.there .here))) rfl rfl rfl rfl ?_|refine zH (.there (.there (.there (.there .here)))) rfl rfl rfl rfl ?_)
              exact J_again (i + 1) (by omega) (by omega) (by rw [hgt, hnext]; exact ⟨⟨rfl, rfl, rfl, rfl, rfl, rfl, rfl, rfl, trivial⟩, fun w s => s.drop⟩)
          · rw [if_pos (ofQ_iff.2 ⟨by omega, by omega⟩)] at hnext
            repeat (first|refine zJ rfl rfl ?_|refine jr rfl ?_|refine jn ?_|refine zM rfl rfl ?_|(refine zC rfl rfl ?_ rfl ?_;omega)|(refine zD rfl rfl ?_ rfl ?_;omega)|(refine zP rfl ?_ rfl ?_;omega)|refine zG rfl rfl rfl rfl ?_|(refine jdq rfl rfl ?_ ?_ ?_;kernel_rfl;kernel_rfl)|refine zB rfl rfl rfl (by repeat constructor) rfl ?_|refine zH .here rfl rfl rfl rfl ?_|refine zH (.there .here) rfl rfl rfl rfl ?_|refine zH (.there (.there .here)) rfl rfl rfl rfl ?_|refine zH (.there (.there (.there .here))) rfl rfl rfl rfl ?_|refine zH (.there (.there (.there (.there .here)))) rfl rfl rfl rfl ?_)
            refine oS (ev_load_agg (cs := msgC x.kind x.mf vb vt) rfl rfl (Rdb.ofB (n := 2) .here rfl) rfl) rfl ?_
            refine oC (Hc := []) (Hr := blk b13 49 [.int .i64 x.from_, .int .i64 x.to, .int .i64 x.kind, .int .i64 x.mf, vb, vt] :: X) (Bytes_spec x.kind x.mf vb vt x.body x.tags ku fu F hb ht (by omega) (by omega) hku hfu hku2 hfu2) Tryd.call25 rfl rfl (fun _ s => s) ?_
            rintro u5 F3 _ hF3 rfl
            refine oOwn .here fun au cu hu' _ _ _ => ?_
            subst hu'
            rw [hwl]
            repeat (first|refine zJ rfl rfl ?_|refine jr rfl ?_|refine jn ?_|refine zM rfl rfl ?_|(refine zC rfl rfl ?_ rfl ?_;omega)|(refine zD rfl rfl ?_ rfl ?_;omega)|(refine zP rfl ?_ rfl ?_;omega)|refine zG rfl rfl rfl rfl ?_|(refine jdq rfl rfl ?_ ?_ ?_;kernel_rfl;kernel_rfl)|refine zB rfl rfl rfl (by repeat constructor) rfl ?_|refine zH .here rfl rfl rfl rfl ?_|refine zH (.there .here) rfl rfl rfl rfl ?_|refine zH (.there (.there .here)) rfl rfl rfl rfl ?_|refine zH (.there (.there (.there .here))) rfl rfl rfl rfl ?_|refine zH (.there (.there (.there (.there .here)))) rfl rfl rfl rfl ?_)
            exact J_again (i + 1) (by omega) (by omega) (by rw [hgt, hnext]; exact ⟨⟨rfl, rfl, rfl, rfl, rfl, rfl, rfl, rfl, trivial⟩, fun w s => s.drop.drop.mono hF3⟩)
        · rw [if_neg (fun hq => by have := ofQ_iff.1 hq; omega)] at hnext
          repeat (first|refine zJ rfl rfl ?_|refine jr rfl ?_|refine jn ?_|refine zM rfl rfl ?_|(refine zC rfl rfl ?_ rfl ?_;omega)|(refine zD rfl rfl ?_ rfl ?_;omega)|(refine zP rfl ?_ rfl ?_;omega)|refine zG rfl rfl rfl rfl ?_|(refine jdq rfl rfl ?_ ?_ ?_;kernel_rfl;kernel_rfl)|refine zB rfl rfl rfl (by repeat constructor) rfl ?_|refine zH .here rfl rfl rfl rfl ?_|refine zH (.there .here) rfl rfl rfl rfl ?_|refine zH (.there (.there .here)) rfl rfl rfl rfl ?_|refine zH (.there (.there (.there .here))) rfl rfl rfl rfl ?_|refine zH (.there (.there (.there (.there .here)))) rfl rfl rfl rfl ?_)
          exact J_again (i + 1) (by omega) (by omega) (by rw [hgt, hnext]; exact ⟨⟨rfl, rfl, rfl, rfl, rfl, rfl, rfl, rfl, trivial⟩, fun w s => s.drop⟩)
      · by_cases f0 : 0 ≤ from_
        · by_cases f1 : x.from_ = from_
          · by_cases f2 : x.to = to
            · rw [if_pos (ofQ_iff.2 ⟨by omega, by omega⟩)] at hnext
              repeat (first|refine zJ rfl rfl ?_|refine jr rfl ?_|refine jn ?_|refine zM rfl rfl ?_|(refine zC rfl rfl ?_ rfl ?_;omega)|(refine zD rfl rfl ?_ rfl ?_;omega)|(refine zP rfl ?_ rfl ?_;omega)|refine zG rfl rfl rfl rfl ?_|(refine jdq rfl rfl ?_ ?_ ?_;kernel_rfl;kernel_rfl)|refine zB rfl rfl rfl (by repeat constructor) rfl ?_|refine zH .here rfl rfl rfl rfl ?_|refine zH (.there .here) rfl rfl rfl rfl ?_|refine zH (.there (.there .here)) rfl rfl rfl rfl ?_|refine zH (.there (.there (.there .here))) rfl rfl rfl rfl ?_|refine zH (.there (.there (.there (.there .here)))) rfl rfl rfl rfl ?_)
              refine oS (ev_load_agg (cs := msgC x.kind x.mf vb vt) rfl rfl (Rdb.ofB (n := 2) .here rfl) rfl) rfl ?_
              refine oC (Hc := []) (Hr := blk b13 49 [.int .i64 x.from_, .int .i64 x.to, .int .i64 x.kind, .int .i64 x.mf, vb, vt] :: X) (Bytes_spec x.kind x.mf vb vt x.body x.tags ku fu F hb ht (by omega) (by omega) hku hfu hku2 hfu2) Tryd.call25 rfl rfl (fun _ s => s) ?_
              rintro u5 F3 _ hF3 rfl
              refine oOwn .here fun au cu hu' _ _ _ => ?_
              subst hu'
              rw [hwl]
              repeat (first|refine zJ rfl rfl ?_|refine jr rfl ?_|refine jn ?_|refine zM rfl rfl ?_|(refine zC rfl rfl ?_ rfl ?_;omega)|(refine zD rfl rfl ?_ rfl ?_;omega)|(refine zP rfl ?_ rfl ?_;omega)|refine zG rfl rfl rfl rfl ?_|(refine jdq rfl rfl ?_ ?_ ?_;kernel_rfl;kernel_rfl)|refine zB rfl rfl rfl (by repeat constructor) rfl ?_|refine zH .here rfl rfl rfl rfl ?_|refine zH (.there .here) rfl rfl rfl rfl ?_|refine zH (.there (.there .here)) rfl rfl rfl rfl ?_|refine zH (.there (.there (.there .here))) rfl rfl rfl rfl ?_|refine zH (.there (.there (.there (.there .here)))) rfl rfl rfl rfl ?_)
              exact J_again (i + 1) (by omega) (by omega) (by rw [hgt, hnext]; exact ⟨⟨rfl, rfl, rfl, rfl, rfl, rfl, rfl, rfl, trivial⟩, fun w s => s.drop.drop.mono hF3⟩)
            · rw [if_neg (fun hq => by have := ofQ_iff.1 hq; omega)] at hnext
              repeat (first|refine zJ rfl rfl ?_|refine jr rfl ?_|refine jn ?_|refine zM rfl rfl ?_|(refine zC rfl rfl ?_ rfl ?_;omega)|(refine zD rfl rfl ?_ rfl ?_;omega)|(refine zP rfl ?_ rfl ?_;omega)|refine zG rfl rfl rfl rfl ?_|(refine jdq rfl rfl ?_ ?_ ?_;kernel_rfl;kernel_rfl)|refine zB rfl rfl rfl (by repeat constructor) rfl ?_|refine zH .here rfl rfl rfl rfl ?_|refine zH (.there .here) rfl rfl rfl rfl ?_|refine zH (.there (.there .here)) rfl rfl rfl rfl ?_|refine zH (.there (.there (.there .here))) rfl rfl rfl rfl ?_|refine zH (.there (.there (.there (.there .here)))) rfl rfl rfl rfl ?_)
              exact J_again (i + 1) (by omega) (by omega) (by rw [hgt, hnext]; exact ⟨⟨rfl, rfl, rfl, rfl, rfl, rfl, rfl, rfl, trivial⟩, fun w s => s.drop⟩)
          · rw [if_neg (fun hq => by have := ofQ_iff.1 hq; omega)] at hnext
            repeat (first|refine zJ rfl rfl ?_|refine jr rfl ?_|refine jn ?_|refine zM rfl rfl ?_|(refine zC rfl rfl ?_ rfl ?_;omega)|(refine zD rfl rfl ?_ rfl ?_;omega)|(refine zP rfl ?_ rfl ?_;omega)|refine zG rfl rfl rfl rfl ?_|(refine jdq rfl rfl ?_ ?_ ?_;kernel_rfl;kernel_rfl)|refine zB rfl rfl rfl (by repeat constructor) rfl ?_|refine zH .here rfl rfl rfl rfl ?_|refine zH (.there .here) rfl rfl rfl rfl ?_|refine zH (.there (.there .here)) rfl rfl rfl rfl ?_|refine zH (.there (.there (.there .here))) rfl rfl rfl rfl ?_|refine zH (.there (.there (.there (.there .here)))) rfl rfl rfl rfl ?_)
            exact J_again (i + 1) (by omega) (by omega) (by rw [hgt, hnext]; exact ⟨⟨rfl, rfl, rfl, rfl, rfl, rfl, rfl, rfl, trivial⟩, fun w s => s.drop⟩)
        · rw [if_pos (ofQ_iff.2 ⟨by omega, by omega⟩)] at hnext
          repeat (first|refine zJ rfl rfl ?_|refine jr rfl ?_|refine jn ?_|refine zM rfl rfl ?_|(refine zC rfl rfl ?_ rfl ?_;omega)|(refine zD rfl rfl ?_ rfl ?_;omega)|(refine zP rfl ?_ rfl ?_;omega)|refine zG rfl rfl rfl rfl ?_|(refine jdq rfl rfl ?_ ?_ ?_;kernel_rfl;kernel_rfl)|refine zB rfl rfl rfl (by repeat constructor) rfl ?_|refine zH .here rfl rfl rfl rfl ?_|refine zH (.there .here) rfl rfl rfl rfl ?_|refine zH (.there (.there .here)) rfl rfl rfl rfl ?_|refine zH (.there (.there (.there .here))) rfl rfl rfl rfl ?_|refine zH (.there (.there (.there (.there .here)))) rfl rfl rfl rfl ?_)
          refine oS (ev_load_agg (cs := msgC x.kind x.mf vb vt) rfl rfl (Rdb.ofB (n := 2) .here rfl) rfl) rfl ?_
          refine oC (Hc := []) (Hr := blk b13 49 [.int .i64 x.from_, .int .i64 x.to, .int .i64 x.kind, .int .i64 x.mf, vb, vt] :: X) (Bytes_spec x.kind x.mf vb vt x.body x.tags ku fu F hb ht (by omega) (by omega) hku hfu hku2 hfu2) Tryd.call25 rfl rfl (fun _ s => s) ?_
          rintro u5 F3 _ hF3 rfl
          refine oOwn .here fun au cu hu' _ _ _ => ?_
          subst hu'
          rw [hwl]
          repeat (first|refine zJ rfl rfl ?_|refine jr rfl ?_|refine jn ?_|refine zM rfl rfl ?_|(refine zC rfl rfl ?_ rfl ?_;omega)|(refine zD rfl rfl ?_ rfl ?_;omega)|(refine zP rfl ?_ rfl ?_;omega)|refine zG rfl rfl rfl rfl ?_|(refine jdq rfl rfl ?_ ?_ ?_;kernel_rfl;kernel_rfl)|refine zB rfl rfl rfl (by repeat constructor) rfl ?_|refine zH .here rfl rfl rfl rfl ?_|refine zH (.there .here) rfl rfl rfl rfl ?_|refine zH (.there (.there .here)) rfl rfl rfl rfl ?_|refine zH (.there (.there (.there .here))) rfl rfl rfl rfl ?_|refine zH (.there (.there (.there (.there .here)))) rfl rfl rfl rfl ?_)
          exact J_again (i + 1) (by omega) (by omega) (by rw [hgt, hnext]; exact ⟨⟨rfl, rfl, rfl, rfl, rfl, rfl, rfl, rfl, trivial⟩, fun w s => s.drop.drop.mono hF3⟩)
    · by_cases a1 : 12 < x.kind
      · have hk : kindK x = 0 := by unfold kindK; rw [if_pos (.inr a1)]
        by_cases k0 : 0 ≤ kind
        · by_cases k1 : kindK x = kind
          · by_cases f0 : 0 ≤ from_
            · by_cases f1 : x.from_ = from_
              · by_cases f2 : x.to = to
                · rw [if_pos (ofQ_iff.2 ⟨by omega, by omega⟩)] at hnext
                  repeat (first|refine zJ rfl rfl ?_|refine jr rfl ?_|refine jn ?_|refine zM rfl rfl ?_|(refine zC rfl rfl ?_ rfl ?_;omega)|(refine zD rfl rfl ?_ rfl ?_;omega)|(refine zP rfl ?_ rfl ?_;omega)|refine zG rfl rfl rfl rfl ?_|(refine jdq rfl rfl ?_ ?_ ?_;kernel_rfl;kernel_rfl)|refine zB rfl rfl rfl (by repeat constructor) rfl ?_|refine zH .here rfl rfl rfl rfl ?_|refine zH (.there .here) rfl rfl rfl rfl ?_|refine zH (.there (.there .here)) rfl rfl rfl rfl ?_|refine zH (.there (.there (.there .here))) rfl rfl rfl rfl ?_|refine zH (.there (.there (.there (.there .here)))) rfl rfl rfl rfl ?_)
                  refine oS (ev_load_agg (cs := msgC x.kind x.mf vb vt) rfl rfl (Rdb.ofB (n := 2) .here rfl) rfl) rfl ?_
                  refine oC (Hc := []) (Hr := blk b13 49 [.int .i64 x.from_, .int .i64 x.to, .int .i64 x.kind, .int .i64 x.mf, vb, vt] :: X) (Bytes_spec x.kind x.mf vb vt x.body x.tags ku fu F hb ht (by omega) (by omega) hku hfu hku2 hfu2) Tryd.call25 rfl rfl (fun _ s => s) ?_
                  rintro u5 F3 _ hF3 rfl
                  refine oOwn .here fun au cu hu' _ _ _ => ?_
                  subst hu'
                  rw [hwl]
                  repeat (first|refine zJ rfl rfl ?_|refine jr rfl ?_|refine jn ?_|refine zM rfl rfl ?_|(refine zC rfl rfl ?_ rfl ?_;omega)|(refine zD rfl rfl ?_ rfl ?_;omega)|(refine zP rfl ?_ rfl ?_;omega)|refine zG rfl rfl rfl rfl ?_|(refine jdq rfl rfl ?_ ?_ ?_;kernel_rfl;kernel_rfl)|refine zB rfl rfl rfl (by repeat constructor) rfl ?_|refine zH .here rfl rfl rfl rfl ?_|refine zH (.there .here) rfl rfl rfl rfl ?_|refine zH (.there (.there .here)) rfl rfl rfl rfl ?_|refine zH (.there (.there (.there .here))) rfl rfl rfl rfl ?_|refine zH (.there (.there (.there (.there .here)))) rfl rfl rfl rfl ?_)
                  exact J_again (i + 1) (by omega) (by omega) (by rw [hgt, hnext]; exact ⟨⟨rfl, rfl, rfl, rfl, rfl, rfl, rfl, rfl, trivial⟩, fun w s => s.drop.drop.mono hF3⟩)
                · rw [if_neg (fun hq => by have := ofQ_iff.1 hq; omega)] at hnext
                  repeat (first|refine zJ rfl rfl ?_|refine jr rfl ?_|refine jn ?_|refine zM rfl rfl ?_|(refine zC rfl rfl ?_ rfl ?_;omega)|(refine zD rfl rfl ?_ rfl ?_;omega)|(refine zP rfl ?_ rfl ?_;omega)|refine zG rfl rfl rfl rfl ?_|(refine jdq rfl rfl ?_ ?_ ?_;kernel_rfl;kernel_rfl)|refine zB rfl rfl rfl (by repeat constructor) rfl ?_|refine zH .here rfl rfl rfl rfl ?_|refine zH (.there .here) rfl rfl rfl rfl ?_|refine zH (.there (.there .here)) rfl rfl rfl rfl ?_|refine zH (.there (.there (.there .here))) rfl rfl rfl rfl ?_|refine zH (.there (.there (.there (.there .here)))) rfl rfl rfl rfl ?_)
                  exact J_again (i + 1) (by omega) (by omega) (by rw [hgt, hnext]; exact ⟨⟨rfl, rfl, rfl, rfl, rfl, rfl, rfl, rfl, trivial⟩, fun w s => s.drop⟩)
              · rw [if_neg (fun hq => by have := ofQ_iff.1 hq; omega)] at hnext
                repeat (first|refine zJ rfl rfl ?_|refine jr rfl ?_|refine jn ?_|refine zM rfl rfl ?_|(refine zC rfl rfl ?_ rfl ?_;omega)|(refine zD rfl rfl ?_ rfl ?_;omega)|(refine zP rfl ?_ rfl ?_;omega)|refine zG rfl rfl rfl rfl ?_|(refine jdq rfl rfl ?_ ?_ ?_;kernel_rfl;kernel_rfl)|refine zB rfl rfl rfl (by repeat constructor) rfl ?_|refine zH .here rfl rfl rfl rfl ?_|refine zH (.there .here) rfl rfl rfl rfl ?_|refine zH (.there (.there .here)) rfl rfl rfl rfl ?_|refine zH (.there (.there (.there .here))) rfl rfl rfl rfl ?_|refine zH (.there (.there (.there (.there .here)))) rfl rfl rfl rfl ?_)
                exact J_again (i + 1) (by omega) (by omega) (by rw [hgt, hnext]; exact ⟨⟨rfl, rfl, rfl, rfl, rfl, rfl, rfl, rfl, trivial⟩, fun w s => s.drop⟩)
            · rw [if_pos (ofQ_iff.2 ⟨by omega, by omega⟩)] at hnext
              repeat (first|refine zJ rfl rfl ?_|refine jr rfl ?_|refine jn ?_|refine zM rfl rfl ?_|(refine zC rfl rfl ?_ rfl ?_;omega)|(refine zD rfl rfl ?_ rfl ?_;omega)|(refine zP rfl ?_ rfl ?_;omega)|refine zG rfl rfl rfl rfl ?_|(refine jdq rfl rfl ?_ ?_ ?_;kernel_rfl;kernel_rfl)|refine zB rfl rfl rfl (by repeat constructor) rfl ?_|refine zH .here rfl rfl rfl rfl ?_|refine zH (.there .here) rfl rfl rfl rfl ?_|refine zH (.there (.there .here)) rfl rfl rfl rfl ?_|refine zH (.there (.there (.there .here))) rfl rfl rfl rfl ?_|refine zH (.there (.there (.there (.there .here)))) rfl rfl rfl rfl ?_)
              refine oS (ev_load_agg (cs := msgC x.kind x.mf vb vt) rfl rfl (Rdb.ofB (n := 2) .here rfl) rfl) rfl ?_
              refine oC (Hc := []) (Hr := blk b13 49 [.int .i64 x.from_, .int .i64 x.to, .int .i64 x.kind, .int .i64 x.mf, vb, vt] :: X) (Bytes_spec x.kind x.mf vb vt x.body x.tags ku fu F hb ht (by omega) (by omega) hku hfu hku2 hfu2) Tryd.call25 rfl rfl (fun _ s => s) ?_
              rintro u5 F3 _ hF3 rfl
              refine oOwn .here fun au cu hu' _ _ _ => ?_
              subst hu'
              rw [hwl]
              repeat (first|refine zJ rfl rfl ?_|refine jr rfl ?_|refine jn ?_|refine zM rfl rfl ?_|(refine zC rfl rfl ?_ rfl ?_;omega)|(refine zD rfl rfl ?_ rfl ?_;omega)|(refine zP rfl ?_ rfl ?_;omega)|refine zG rfl rfl rfl rfl ?_|(refine jdq rfl rfl ?_ ?_ ?_;kernel_rfl;kernel_rfl)|refine zB rfl rfl rfl (by repeat constructor) rfl ?_|refine zH .here rfl rfl rfl rfl ?_|refine zH (.there .here) rfl rfl rfl rfl ?_|refine zH (.there (.there .here)) rfl rfl rfl rfl ?_|refine zH (.there (.there (.there .here))) rfl rfl rfl rfl ?_|refine zH (.there (.there (.there (.there .here)))) rfl rfl rfl rfl ?_)
              exact J_again (i + 1) (by omega) (by omega) (by rw [hgt, hnext]; exact ⟨⟨rfl, rfl, rfl, rfl, rfl, rfl, rfl, rfl, trivial⟩, fun w s => s.drop.drop.mono hF3⟩)
          · rw [if_neg (fun hq => by have := ofQ_iff.1 hq; omega)] at hnext
            repeat (first|refine zJ rfl rfl ?_|refine jr rfl ?_|refine jn ?_|refine zM rfl rfl ?_|(refine zC rfl rfl ?_ rfl ?_;omega)|(refine zD rfl rfl ?_ rfl ?_;omega)|(refine zP rfl ?_ rfl ?_;omega)|refine zG rfl rfl rfl rfl ?_|(refine jdq rfl rfl ?_ ?_ ?_;kernel_rfl;kernel_rfl)|refine zB rfl rfl rfl (by repeat constructor) rfl ?_|refine zH .here rfl rfl rfl rfl ?_|refine zH (.there .here) rfl rfl rfl rfl ?_|refine zH (.there (.there .here)) rfl rfl rfl rfl ?_|refine zH (.there (.there (.there .here))) rfl rfl rfl rfl ?_|refine zH (.there (.there (.there (.there .here)))) rfl rfl rfl rfl ?_)
            exact J_again (i + 1) (by omega) (by omega) (by rw [hgt, hnext]; exact ⟨⟨rfl, rfl, rfl, rfl, rfl, rfl, rfl, rfl, trivial⟩, fun w s => s.drop⟩)
        · by_cases f0 : 0 ≤ from_
          · by_cases f1 : x.from_ = from_
            · by_cases f2 : x.to = to
              · rw [if_pos (ofQ_iff.2 ⟨by omega, by omega⟩)] at hnext
                repeat (first|refine zJ rfl rfl ?_|refine jr rfl ?_|refine jn ?_|refine zM rfl rfl ?_|(refine zC rfl rfl ?_ rfl ?_;omega)|(refine zD rfl rfl ?_ rfl ?_;omega)|(refine zP rfl ?_ rfl ?_;omega)|refine zG rfl rfl rfl rfl ?_|(refine jdq rfl rfl ?_ ?_ ?_;kernel_rfl;kernel_rfl)|refine zB rfl rfl rfl (by repeat constructor) rfl ?_|refine zH .here rfl rfl rfl rfl ?_|refine zH (.there .here) rfl rfl rfl rfl ?_|refine zH (.there (.there .here)) rfl rfl rfl rfl ?_|refine zH (.there (.there (.there .here))) rfl rfl rfl rfl ?_|refine zH (.there (.there (.there (.there .here)))) rfl rfl rfl rfl ?_)
                refine oS (ev_load_agg (cs := msgC x.kind x.mf vb vt) rfl rfl (Rdb.ofB (n := 2) .here rfl) rfl) rfl ?_
                refine oC (Hc := []) (Hr := blk b13 49 [.int .i64 x.from_, .int .i64 x.to, .int .i64 x.kind, .int .i64 x.mf, vb, vt] :: X) (Bytes_spec x.kind x.mf vb vt x.body x.tags ku fu F hb ht (by omega) (by omega) hku hfu hku2 hfu2) Tryd.call25 rfl rfl (fun _ s => s) ?_
                rintro u5 F3 _ hF3 rfl
                refine oOwn .here fun au cu hu' _ _ _ => ?_
                subst hu'
                rw [hwl]
                repeat (first|refine zJ rfl rfl ?_|refine jr rfl ?_|refine jn ?_|refine zM rfl rfl ?_|(refine zC rfl rfl ?_ rfl ?_;omega)|(refine zD rfl rfl ?_ rfl ?_;omega)|(refine zP rfl ?_ rfl ?_;omega)|refine zG rfl rfl rfl rfl ?_|(refine jdq rfl rfl ?_ ?_ ?_;kernel_rfl;kernel_rfl)|refine zB rfl rfl rfl (by repeat constructor) rfl ?_|refine zH .here rfl rfl rfl rfl ?_|refine zH (.there .here) rfl rfl rfl rfl ?_|refine zH (.there (.there .here)) rfl rfl rfl rfl ?_|refine zH (.there (.there (.there .here))) rfl rfl rfl rfl ?_|refine zH (.there (.there (.there (.there .here)))) rfl rfl rfl rfl ?_)
                exact J_again (i + 1) (by omega) (by omega) (by rw [hgt, hnext]; exact ⟨⟨rfl, rfl, rfl, rfl, rfl, rfl, rfl, rfl, trivial⟩, fun w s => s.drop.drop.mono hF3⟩)
              · rw [if_neg (fun hq => by have := ofQ_iff.1 hq; omega)] at hnext
                repeat (first|refine zJ rfl rfl ?_|refine jr rfl ?_|refine jn ?_|refine zM rfl rfl ?_|(refine zC rfl rfl ?_ rfl ?_;omega)|(refine zD rfl rfl ?_ rfl ?_;omega)|(refine zP rfl ?_ rfl ?_;omega)|refine zG rfl rfl rfl rfl ?_|(refine jdq rfl rfl ?_ ?_ ?_;kernel_rfl;kernel_rfl)|refine zB rfl rfl rfl (by repeat constructor) rfl ?_|refine zH .here rfl rfl rfl rfl ?_|refine zH (.there .here) rfl rfl rfl rfl ?_|refine zH (.there (.there .here)) rfl rfl rfl rfl ?_|refine zH (.there (.there (.there .here))) rfl rfl rfl rfl ?_|refine zH (.there (.there (.there (.there .here)))) rfl rfl rfl rfl ?_)
                exact J_again (i + 1) (by omega) (by omega) (by rw [hgt, hnext]; exact ⟨⟨rfl, rfl, rfl, rfl, rfl, rfl, rfl, rfl, trivial⟩, fun w s => s.drop⟩)
            · rw [if_neg (fun hq => by have := ofQ_iff.1 hq; omega)] at hnext
              repeat (first|refine zJ rfl rfl ?_|refine jr rfl ?_|refine jn ?_|refine zM rfl rfl ?_|(refine zC rfl rfl ?_ rfl ?_;omega)|(refine zD rfl rfl ?_ rfl ?_;omega)|(refine zP rfl ?_ rfl ?_;omega)|refine zG rfl rfl rfl rfl ?_|(refine jdq rfl rfl ?_ ?_ ?_;kernel_rfl;kernel_rfl)|refine zB rfl rfl rfl (by repeat constructor) rfl ?_|refine zH .here rfl rfl rfl rfl ?_|refine zH (.there .here) rfl rfl rfl rfl ?_|refine zH (.there (.there .here)) rfl rfl rfl rfl ?_|refine zH (.there (.there (.there .here))) rfl rfl rfl rfl ?_|refine zH (.there (.there (.there (.there .here)))) rfl rfl rfl rfl ?_)
              exact J_again (i + 1) (by omega) (by omega) (by rw [hgt, hnext]; exact ⟨⟨rfl, rfl, rfl, rfl, rfl, rfl, rfl, rfl, trivial⟩, fun w s => s.drop⟩)
          · rw [if_pos (ofQ_iff.2 ⟨by omega, by omega⟩)] at hnext
            repeat (first|refine zJ rfl rfl ?_|refine jr rfl ?_|refine jn ?_|refine zM rfl rfl ?_|(refine zC rfl rfl ?_ rfl ?_;omega)|(refine zD rfl rfl ?_ rfl ?_;omega)|(refine zP rfl ?_ rfl ?_;omega)|refine zG rfl rfl rfl rfl ?_|(refine jdq rfl rfl ?_ ?_ ?_;kernel_rfl;kernel_rfl)|refine zB rfl rfl rfl (by repeat constructor) rfl ?_|refine zH .here rfl rfl rfl rfl ?_|refine zH (.there .here) rfl rfl rfl rfl ?_|refine zH (.there (.there .here)) rfl rfl rfl rfl ?_|refine zH (.there (.there (.there .here))) rfl rfl rfl rfl ?_|refine zH (.there (.there (.there (.there .here)))) rfl rfl rfl rfl ?_)
            refine oS (ev_load_agg (cs := msgC x.kind x.mf vb vt) rfl rfl (Rdb.ofB (n := 2) .here rfl) rfl) rfl ?_
            refine oC (Hc := []) (Hr := blk b13 49 [.int .i64 x.from_, .int .i64 x.to, .int .i64 x.kind, .int .i64 x.mf, vb, vt] :: X) (Bytes_spec x.kind x.mf vb vt x.body x.tags ku fu F hb ht (by omega) (by omega) hku hfu hku2 hfu2) Tryd.call25 rfl rfl (fun _ s => s) ?_
            rintro u5 F3 _ hF3 rfl
            refine oOwn .here fun au cu hu' _ _ _ => ?_
            subst hu'
            rw [hwl]
            repeat (first|refine zJ rfl rfl ?_|refine jr rfl ?_|refine jn ?_|refine zM rfl rfl ?_|(refine zC rfl rfl ?_ rfl ?_;omega)|(refine zD rfl rfl ?_ rfl ?_;omega)|(refine zP rfl ?_ rfl ?_;omega)|refine zG rfl rfl rfl rfl ?_|(refine jdq rfl rfl ?_ ?_ ?_;kernel_rfl;kernel_rfl)|refine zB rfl rfl rfl (by repeat constructor) rfl ?_|refine zH .here rfl rfl rfl rfl ?_|refine zH (.there .here) rfl rfl rfl rfl ?_|refine zH (.there (.there .here)) rfl rfl rfl rfl ?_|refine zH (.there (.there (.there .here))) rfl rfl rfl rfl ?_|refine zH (.there (.there (.there (.there .here)))) rfl rfl rfl rfl ?_)
            exact J_again (i + 1) (by omega) (by omega) (by rw [hgt, hnext]; exact ⟨⟨rfl, rfl, rfl, rfl, rfl, rfl, rfl, rfl, trivial⟩, fun w s => s.drop.drop.mono hF3⟩)
      · have hk : kindK x = x.kind := by unfold kindK; rw [if_neg (by omega)]
        by_cases k0 : 0 ≤ kind
        · by_cases k1 : kindK x = kind
          · by_cases f0 : 0 ≤ from_
            · by_cases f1 : x.from_ = from_
              · by_cases f2 : x.to = to
                · rw [if_pos (ofQ_iff.2 ⟨by omega, by omega⟩)] at hnext
                  repeat (first|refine zJ rfl rfl ?_|refine jr rfl ?_|refine jn ?_|refine zM rfl rfl ?_|(refine zC rfl rfl ?_ rfl ?_;omega)|(refine zD rfl rfl ?_ rfl ?_;omega)|(refine zP rfl ?_ rfl ?_;omega)|refine zG rfl rfl rfl rfl ?_|(refine jdq rfl rfl ?_ ?_ ?_;kernel_rfl;kernel_rfl)|refine zB rfl rfl rfl (by repeat constructor) rfl ?_|refine zH .here rfl rfl rfl rfl ?_|refine zH (.there .here) rfl rfl rfl rfl ?_|refine zH (.there (.there .here)) rfl rfl rfl rfl ?_|refine zH (.there (.there (.there .here))) rfl rfl rfl rfl ?_|refine zH (.there (.there (.there (.there .here)))) rfl rfl rfl rfl ?_)
                  refine oS (ev_load_agg (cs := msgC x.kind x.mf vb vt) rfl rfl (Rdb.ofB (n := 2) .here rfl) rfl) rfl ?_
                  refine oC (Hc := []) (Hr := blk b13 49 [.int .i64 x.from_, .int .i64 x.to, .int .i64 x.kind, .int .i64 x.mf, vb, vt] :: X) (Bytes_spec x.kind x.mf vb vt x.body x.tags ku fu F hb ht (by omega) (by omega) hku hfu hku2 hfu2) Tryd.call25 rfl rfl (fun _ s => s) ?_
                  rintro u5 F3 _ hF3 rfl
                  refine oOwn .here fun au cu hu' _ _ _ => ?_
                  subst hu'
                  rw [hwl]
                  repeat (first|refine zJ rfl rfl ?_|refine jr rfl ?_|refine jn ?_|refine zM rfl rfl ?_|(refine zC rfl rfl ?_ rfl ?_;omega)|(refine zD rfl rfl ?_ rfl ?_;omega)|(refine zP rfl ?_ rfl ?_;omega)|refine zG rfl rfl rfl rfl ?_|(refine jdq rfl rfl ?_ ?_ ?_;kernel_rfl;kernel_rfl)|refine zB rfl rfl rfl (by repeat constructor) rfl ?_|refine zH .here rfl rfl rfl rfl ?_|refine zH (.there .here) rfl rfl rfl rfl ?_|refine zH (.there (.there .here)) rfl rfl rfl rfl ?_|refine zH (.there (.there (.there .here))) rfl rfl rfl rfl ?_|refine zH (.there (.there (.there (.there .here)))) rfl rfl rfl rfl ?_)
                  exact J_again (i + 1) (by omega) (by omega) (by rw [hgt, hnext]; exact ⟨⟨rfl, rfl, rfl, rfl, rfl, rfl, rfl, rfl, trivial⟩, fun w s => s.drop.drop.mono hF3⟩)
                · rw [if_neg (fun hq => by have := ofQ_iff.1 hq; omega)] at hnext
                  repeat (first|refine zJ rfl rfl ?_|refine jr rfl ?_|refine jn ?_|refine zM rfl rfl ?_|(refine zC rfl rfl ?_ rfl ?_;omega)|(refine zD rfl rfl ?_ rfl ?_;omega)|(refine zP rfl ?_ rfl ?_;omega)|refine zG rfl rfl rfl rfl ?_|(refine jdq rfl rfl ?_ ?_ ?_;kernel_rfl;kernel_rfl)|refine zB rfl rfl rfl (by repeat constructor) rfl ?_|refine zH .here rfl rfl rfl rfl ?_|refine zH (.there .here) rfl rfl rfl rfl ?_|refine zH (.there (.there .here)) rfl rfl rfl rfl ?_|refine zH (.there (.there (.there .here))) rfl rfl rfl rfl ?_|refine zH (.there (.there (.there (.there .here)))) rfl rfl rfl rfl ?_)
                  exact J_again (i + 1) (by omega) (by omega) (by rw [hgt, hnext]; exact ⟨⟨rfl, rfl, rfl, rfl, rfl, rfl, rfl, rfl, trivial⟩, fun w s => s.drop⟩)
              · rw [if_neg (fun hq => by have := ofQ_iff.1 hq; omega)] at hnext
                repeat (first|refine zJ rfl rfl ?_|refine jr rfl ?_|refine jn ?_|refine zM rfl rfl ?_|(refine zC rfl rfl ?_ rfl ?_;omega)|(refine zD rfl rfl ?_ rfl ?_;omega)|(refine zP rfl ?_ rfl ?_;omega)|refine zG rfl rfl rfl rfl ?_|(refine jdq rfl rfl ?_ ?_ ?_;kernel_rfl;kernel_rfl)|refine zB rfl rfl rfl (by repeat constructor) rfl ?_|refine zH .here rfl rfl rfl rfl ?_|refine zH (.there .here) rfl rfl rfl rfl ?_|refine zH (.there (.there .here)) rfl rfl rfl rfl ?_|refine zH (.there (.there (.there .here))) rfl rfl rfl rfl ?_|refine zH (.there (.there (.there (.there .here)))) rfl rfl rfl rfl ?_)
                exact J_again (i + 1) (by omega) (by omega) (by rw [hgt, hnext]; exact ⟨⟨rfl, rfl, rfl, rfl, rfl, rfl, rfl, rfl, trivial⟩, fun w s => s.drop⟩)
            · rw [if_pos (ofQ_iff.2 ⟨by omega, by omega⟩)] at hnext
              repeat (first|refine zJ rfl rfl ?_|refine jr rfl ?_|refine jn ?_|refine zM rfl rfl ?_|(refine zC rfl rfl ?_ rfl ?_;omega)|(refine zD rfl rfl ?_ rfl ?_;omega)|(refine zP rfl ?_ rfl ?_;omega)|refine zG rfl rfl rfl rfl ?_|(refine jdq rfl rfl ?_ ?_ ?_;kernel_rfl;kernel_rfl)|refine zB rfl rfl rfl (by repeat constructor) rfl ?_|refine zH .here rfl rfl rfl rfl ?_|refine zH (.there .here) rfl rfl rfl rfl ?_|refine zH (.there (.there .here)) rfl rfl rfl rfl ?_|refine zH (.there (.there (.there .here))) rfl rfl rfl rfl ?_|refine zH (.there (.there (.there (.there .here)))) rfl rfl rfl rfl ?_)
              refine oS (ev_load_agg (cs := msgC x.kind x.mf vb vt) rfl rfl (Rdb.ofB (n := 2) .here rfl) rfl) rfl ?_
              refine oC (Hc := []) (Hr := blk b13 49 [.int .i64 x.from_, .int .i64 x.to, .int .i64 x.kind, .int .i64 x.mf, vb, vt] :: X) (Bytes_spec x.kind x.mf vb vt x.body x.tags ku fu F hb ht (by omega) (by omega) hku hfu hku2 hfu2) Tryd.call25 rfl rfl (fun _ s => s) ?_
              rintro u5 F3 _ hF3 rfl
              refine oOwn .here fun au cu hu' _ _ _ => ?_
              subst hu'
              rw [hwl]
              repeat (first|refine zJ rfl rfl ?_|refine jr rfl ?_|refine jn ?_|refine zM rfl rfl ?_|(refine zC rfl rfl ?_ rfl ?_;omega)|(refine zD rfl rfl ?_ rfl ?_;omega)|(refine zP rfl ?_ rfl ?_;omega)|refine zG rfl rfl rfl rfl ?_|(refine jdq rfl rfl ?_ ?_ ?_;kernel_rfl;kernel_rfl)|refine zB rfl rfl rfl (by repeat constructor) rfl ?_|refine zH .here rfl rfl rfl rfl ?_|refine zH (.there .here) rfl rfl rfl rfl ?_|refine zH (.there (.there .here)) rfl rfl rfl rfl ?_|refine zH (.there (.there (.there .here))) rfl rfl rfl rfl ?_|refine zH (.there (.there (.there (.there .here)))) rfl rfl rfl rfl ?_)
              exact J_again (i + 1) (by omega) (by omega) (by rw [hgt, hnext]; exact ⟨⟨rfl, rfl, rfl, rfl, rfl, rfl, rfl, rfl, trivial⟩, fun w s => s.drop.drop.mono hF3⟩)
          · rw [if_neg (fun hq => by have := ofQ_iff.1 hq; omega)] at hnext
            repeat (first|refine zJ rfl rfl ?_|refine jr rfl ?_|refine jn ?_|refine zM rfl rfl ?_|(refine zC rfl rfl ?_ rfl ?_;omega)|(refine zD rfl rfl ?_ rfl ?_;omega)|(refine zP rfl ?_ rfl ?_;omega)|refine zG rfl rfl rfl rfl ?_|(refine jdq rfl rfl ?_ ?_ ?_;kernel_rfl;kernel_rfl)|refine zB rfl rfl rfl (by repeat constructor) rfl ?_|refine zH .here rfl rfl rfl rfl ?_|refine zH (.there .here) rfl rfl rfl rfl ?_|refine zH (.there (.there .here)) rfl rfl rfl rfl ?_|refine zH (.there (.there (.there .here))) rfl rfl rfl rfl ?_|refine zH (.there (.there (.there (.there .here)))) rfl rfl rfl rfl ?_)
            exact J_again (i + 1) (by omega) (by omega) (by rw [hgt, hnext]; exact ⟨⟨rfl, rfl, rfl, rfl, rfl, rfl, rfl, rfl, trivial⟩, fun w s => s.drop⟩)
        · by_cases f0 : 0 ≤ from_
          · by_cases f1 : x.from_ = from_
            · by_cases f2 : x.to = to
              · rw [if_pos (ofQ_iff.2 ⟨by omega, by omega⟩)] at hnext
                repeat (first|refine zJ rfl rfl ?_|refine jr rfl ?_|refine jn ?_|refine zM rfl rfl ?_|(refine zC rfl rfl ?_ rfl ?_;omega)|(refine zD rfl rfl ?_ rfl ?_;omega)|(refine zP rfl ?_ rfl ?_;omega)|refine zG rfl rfl rfl rfl ?_|(refine jdq rfl rfl ?_ ?_ ?_;kernel_rfl;kernel_rfl)|refine zB rfl rfl rfl (by repeat constructor) rfl ?_|refine zH .here rfl rfl rfl rfl ?_|refine zH (.there .here) rfl rfl rfl rfl ?_|refine zH (.there (.there .here)) rfl rfl rfl rfl ?_|refine zH (.there (.there (.there .here))) rfl rfl rfl rfl ?_|refine zH (.there (.there (.there (.there .here)))) rfl rfl rfl rfl ?_)
                refine oS (ev_load_agg (cs := msgC x.kind x.mf vb vt) rfl rfl (Rdb.ofB (n := 2) .here rfl) rfl) rfl ?_
                refine oC (Hc := []) (Hr := blk b13 49 [.int .i64 x.from_, .int .i64 x.to, .int .i64 x.kind, .int .i64 x.mf, vb, vt] :: X) (Bytes_spec x.kind x.mf vb vt x.body x.tags ku fu F hb ht (by omega) (by omega) hku hfu hku2 hfu2) Tryd.call25 rfl rfl (fun _ s => s) ?_
                rintro u5 F3 _ hF3 rfl
                refine oOwn .here fun au cu hu' _ _ _ => ?_
                subst hu'
                rw [hwl]
                repeat (first|refine zJ rfl rfl ?_|refine jr rfl ?_|refine jn ?_|refine zM rfl rfl ?_|(refine zC rfl rfl ?_ rfl ?_;omega)|(refine zD rfl rfl ?_ rfl ?_;omega)|(refine zP rfl ?_ rfl ?_;omega)|refine zG rfl rfl rfl rfl ?_|(refine jdq rfl rfl ?_ ?_ ?_;kernel_rfl;kernel_rfl)|refine zB rfl rfl rfl (by repeat constructor) rfl ?_|refine zH .here rfl rfl rfl rfl ?_|refine zH (.there .here) rfl rfl rfl rfl ?_|refine zH (.there (.there .here)) rfl rfl rfl rfl ?_|refine zH (.there (.there (.there .here))) rfl rfl rfl rfl ?_|refine zH (.there (.there (.there (.there .here)))) rfl rfl rfl rfl ?_)
                exact J_again (i + 1) (by omega) (by omega) (by rw [hgt, hnext]; exact ⟨⟨rfl, rfl, rfl, rfl, rfl, rfl, rfl, rfl, trivial⟩, fun w s => s.drop.drop.mono hF3⟩)
              · rw [if_neg (fun hq => by have := ofQ_iff.1 hq; omega)] at hnext
                repeat (first|refine zJ rfl rfl ?_|refine jr rfl ?_|refine jn ?_|refine zM rfl rfl ?_|(refine zC rfl rfl ?_ rfl ?_;omega)|(refine zD rfl rfl ?_ rfl ?_;omega)|(refine zP rfl ?_ rfl ?_;omega)|refine zG rfl rfl rfl rfl ?_|(refine jdq rfl rfl ?_ ?_ ?_;kernel_rfl;kernel_rfl)|refine zB rfl rfl rfl (by repeat constructor) rfl ?_|refine zH .here rfl rfl rfl rfl ?_|refine zH (.there .here) rfl rfl rfl rfl ?_|refine zH (.there (.there .here)) rfl rfl rfl rfl ?_|refine zH (.there (.there (.there .here))) rfl rfl rfl rfl ?_|refine zH (.there (.there (.there (.there .here)))) rfl rfl rfl rfl ?_)
                exact J_again (i + 1) (by omega) (by omega) (by rw [hgt, hnext]; exact ⟨⟨rfl, rfl, rfl, rfl, rfl, rfl, rfl, rfl, trivial⟩, fun w s => s.drop⟩)
            · rw [if_neg (fun hq => by have := ofQ_iff.1 hq; omega)] at hnext
              repeat (first|refine zJ rfl rfl ?_|refine jr rfl ?_|refine jn ?_|refine zM rfl rfl ?_|(refine zC rfl rfl ?_ rfl ?_;omega)|(refine zD rfl rfl ?_ rfl ?_;omega)|(refine zP rfl ?_ rfl ?_;omega)|refine zG rfl rfl rfl rfl ?_|(refine jdq rfl rfl ?_ ?_ ?_;kernel_rfl;kernel_rfl)|refine zB rfl rfl rfl (by repeat constructor) rfl ?_|refine zH .here rfl rfl rfl rfl ?_|refine zH (.there .here) rfl rfl rfl rfl ?_|refine zH (.there (.there .here)) rfl rfl rfl rfl ?_|refine zH (.there (.there (.there .here))) rfl rfl rfl rfl ?_|refine zH (.there (.there (.there (.there .here)))) rfl rfl rfl rfl ?_)
              exact J_again (i + 1) (by omega) (by omega) (by rw [hgt, hnext]; exact ⟨⟨rfl, rfl, rfl, rfl, rfl, rfl, rfl, rfl, trivial⟩, fun w s => s.drop⟩)
          · rw [if_pos (ofQ_iff.2 ⟨by omega, by omega⟩)] at hnext
            repeat (first|refine zJ rfl rfl ?_|refine jr rfl ?_|refine jn ?_|refine zM rfl rfl ?_|(refine zC rfl rfl ?_ rfl ?_;omega)|(refine zD rfl rfl ?_ rfl ?_;omega)|(refine zP rfl ?_ rfl ?_;omega)|refine zG rfl rfl rfl rfl ?_|(refine jdq rfl rfl ?_ ?_ ?_;kernel_rfl;kernel_rfl)|refine zB rfl rfl rfl (by repeat constructor) rfl ?_|refine zH .here rfl rfl rfl rfl ?_|refine zH (.there .here) rfl rfl rfl rfl ?_|refine zH (.there (.there .here)) rfl rfl rfl rfl ?_|refine zH (.there (.there (.there .here))) rfl rfl rfl rfl ?_|refine zH (.there (.there (.there (.there .here)))) rfl rfl rfl rfl ?_)
            refine oS (ev_load_agg (cs := msgC x.kind x.mf vb vt) rfl rfl (Rdb.ofB (n := 2) .here rfl) rfl) rfl ?_
            refine oC (Hc := []) (Hr := blk b13 49 [.int .i64 x.from_, .int .i64 x.to, .int .i64 x.kind, .int .i64 x.mf, vb, vt] :: X) (Bytes_spec x.kind x.mf vb vt x.body x.tags ku fu F hb ht (by omega) (by omega) hku hfu hku2 hfu2) Tryd.call25 rfl rfl (fun _ s => s) ?_
            rintro u5 F3 _ hF3 rfl
            refine oOwn .here fun au cu hu' _ _ _ => ?_
            subst hu'
            rw [hwl]
            repeat (first|refine zJ rfl rfl ?_|refine jr rfl ?_|refine jn ?_|refine zM rfl rfl ?_|(refine zC rfl rfl ?_ rfl ?_;omega)|(refine zD rfl rfl ?_ rfl ?_;omega)|(refine zP rfl ?_ rfl ?_;omega)|refine zG rfl rfl rfl rfl ?_|(refine jdq rfl rfl ?_ ?_ ?_;kernel_rfl;kernel_rfl)|refine zB rfl rfl rfl (by repeat constructor) rfl ?_|refine zH .here rfl rfl rfl rfl ?_|refine zH (.there .here) rfl rfl rfl rfl ?_|refine zH (.there (.there .here)) rfl rfl rfl rfl ?_|refine zH (.there (.there (.there .here))) rfl rfl rfl rfl ?_|refine zH (.there (.there (.there (.there .here)))) rfl rfl rfl rfl ?_)
            exact J_again (i + 1) (by omega) (by omega) (by rw [hgt, hnext]; exact ⟨⟨rfl, rfl, rfl, rfl, rfl, rfl, rfl, rfl, trivial⟩, fun w s => s.drop.drop.mono hF3⟩)
  · obtain rfl : i = xs.length := by omega
    rw [List.take_length]
    repeat (first|refine zJ rfl rfl ?_|refine jr rfl ?_|refine jn ?_|refine zM rfl rfl ?_|(refine zC rfl rfl ?_ rfl ?_;omega)|(refine zD rfl rfl ?_ rfl ?_;omega)|(refine zP rfl ?_ rfl ?_;omega)|refine zG rfl rfl rfl rfl ?_|(refine jdq rfl rfl ?_ ?_ ?_;kernel_rfl;kernel_rfl)|refine zB rfl rfl rfl (by repeat constructor) rfl ?_|refine zH .here rfl rfl rfl rfl ?_|refine zH (.there .here) rfl rfl rfl rfl ?_|refine zH (.there (.there .here)) rfl rfl rfl rfl ?_|refine zH (.there (.there (.there .here))) rfl rfl rfl rfl ?_|refine zH (.there (.there (.there (.there .here)))) rfl rfl rfl rfl ?_)
    exact J_ret2 rfl rfl rfl [] rfl (PH.ler _) ⟨rfl, rfl⟩
end Go.Proofs.YtmicjjhkoicdnaaDoor
namespace Go.Proofs.YtmicjjhkoicdnaaDoor
open Go.RowKit
set_option maxRecDepth 100000
/-- A number's digits; none of 0. -/
def preD (t : Nat) : List UInt8 := if t = 0 then [] else Lib.decDigits t
theorem dec_step (v : Nat) : Lib.decDigits v = preD (v / 10) ++ [UInt8.ofNat (48 + v % 10)] := by
  unfold preD
  rw [Lib.decDigits]
  by_cases h : v < 10
  · rw [dif_pos h, if_pos (by omega), Nat.mod_eq_of_lt h]; rfl
  · rw [dif_neg h, if_neg (by omega)]
theorem preD_step {t : Nat} (h : t ≠ 0) : preD t = preD (t / 10) ++ [UInt8.ofNat (48 + t % 10)] := by
  rw [← dec_step]
  unfold preD
  rw [if_neg h]
theorem digit_val {d : Nat} (h : d < 10) : ((UInt8.ofNat (48 + d)).toNat : Int) = 48 + (d : Int) := by
  have : (UInt8.ofNat (48 + d)).toNat = 48 + d := by simp; omega
  omega
set_option maxHeartbeats 8000000 in
theorem positive_spec (t d : Nat) (F : PH) (hd : d < 10) (ht : t ≤ 922337203685477580) (hR : (preD t ++ [UInt8.ofNat (48 + d)]).length ≤ 100) :
    Pure Tryd.prog 38 [.int .i64 t, .int .i64 d] F (.string (strOf (preD t ++ [UInt8.ofNat (48 + d)]))) := by
  refine Spec.of2 Tryd.func38 rfl rfl fun X w0 => ?_
  repeat (first|refine zJ rfl rfl ?_|refine jr rfl ?_|refine jn ?_|refine zM rfl rfl ?_|(refine zC rfl rfl ?_ rfl ?_;omega)|(refine zD rfl rfl ?_ rfl ?_;omega)|(refine zP rfl ?_ rfl ?_;omega)|refine zG rfl rfl rfl rfl ?_|(refine jdq rfl rfl ?_ ?_ ?_;kernel_rfl;kernel_rfl)|refine zB rfl rfl rfl (by repeat constructor) rfl ?_|refine zH .here rfl rfl rfl rfl ?_|refine zH (.there .here) rfl rfl rfl rfl ?_|refine zH (.there (.there .here)) rfl rfl rfl rfl ?_|refine zH (.there (.there (.there .here))) rfl rfl rfl rfl ?_|refine zH (.there (.there (.there (.there .here)))) rfl rfl rfl rfl ?_)
  rw [show (48 : Int) + (d : Int) = ((UInt8.ofNat (48 + d)).toNat : Int) from (digit_val hd).symm]
  refine oE (ev_buildSlice (E := 5) (zs := [.int .u8 0]) (t := u8s [UInt8.ofNat (48 + d)]) rfl rfl rfl rfl rfl rfl (.cons .int rfl (by repeat constructor) .nil)) rfl ?_
  rintro _ _ _ _ ⟨rfl, bx, rfl, rfl⟩
  refine oPersist fun h' ho hdj => ?_
  have hb : Byt (F.un h') (.slice (some ⟨bx, 0, none⟩) 1 1) [UInt8.ofNat (48 + d)] := ⟨rfl, _, 1, rfl, Nat.le_refl _, fun _ => ⟨bx, 0, rfl, blk_cells ho hdj⟩⟩
  have hF1 : F.le (F.un h') := PH.le_l _ _
  generalize F.un h' = F1 at *
  refine oS (ev_bytes_string rfl hb.rds rfl rfl rfl) rfl ?_
  repeat (first|refine zJ rfl rfl ?_|refine jr rfl ?_|refine jn ?_|refine zM rfl rfl ?_|(refine zC rfl rfl ?_ rfl ?_;omega)|(refine zD rfl rfl ?_ rfl ?_;omega)|(refine zP rfl ?_ rfl ?_;omega)|refine zG rfl rfl rfl rfl ?_|(refine jdq rfl rfl ?_ ?_ ?_;kernel_rfl;kernel_rfl)|refine zB rfl rfl rfl (by repeat constructor) rfl ?_|refine zH .here rfl rfl rfl rfl ?_|refine zH (.there .here) rfl rfl rfl rfl ?_|refine zH (.there (.there .here)) rfl rfl rfl rfl ?_|refine zH (.there (.there (.there .here))) rfl rfl rfl rfl ?_|refine zH (.there (.there (.there (.there .here)))) rfl rfl rfl rfl ?_)
  generalize hRR : preD t ++ [UInt8.ofNat (48 + d)] = R at *
  refine J_loop2 (fun (n : Nat) (out : List UInt8) => preD n ++ out = R ∧ n ≤ 922337203685477580) (fun n _ => n) (fun n out => [(0, .int .i64 n), (5, .string (strOf out))]) (fun _ _ => F) (fun _ _ => X) t [UInt8.ofNat (48 + d)] ⟨hRR, ht⟩ ⟨⟨rfl, rfl, trivial⟩, fun w s => s.mono hF1⟩ ?_
  rintro n out ⟨hn, hnb⟩
  have hlen := congrArg List.length hn
  rw [List.length_append] at hlen
  by_cases h0 : 0 < n
  · rw [preD_step (by omega), List.append_assoc] at hn
    have hq : ((n / 10 : Nat) : Int) = (n : Int) / 10 := by omega
    repeat (first|refine zJ rfl rfl ?_|refine jr rfl ?_|refine jn ?_|refine zM rfl rfl ?_|(refine zC rfl rfl ?_ rfl ?_;omega)|(refine zD rfl rfl ?_ rfl ?_;omega)|(refine zP rfl ?_ rfl ?_;omega)|refine zG rfl rfl rfl rfl ?_|(refine jdq rfl rfl ?_ ?_ ?_;kernel_rfl;kernel_rfl)|refine zB rfl rfl rfl (by repeat constructor) rfl ?_|refine zH .here rfl rfl rfl rfl ?_|refine zH (.there .here) rfl rfl rfl rfl ?_|refine zH (.there (.there .here)) rfl rfl rfl rfl ?_|refine zH (.there (.there (.there .here))) rfl rfl rfl rfl ?_|refine zH (.there (.there (.there (.there .here)))) rfl rfl rfl rfl ?_)
    have hm10 : n % 10 < 10 := Nat.mod_lt _ (by omega)
    rw [show (48 : Int) + (n : Int) % 10 = ((UInt8.ofNat (48 + n % 10)).toNat : Int) from by rw [digit_val hm10]; omega]
    generalize n % 10 = m at *
    refine oE (ev_buildSlice (E := 5) (zs := [.int .u8 0]) (t := u8s [UInt8.ofNat (48 + m)]) rfl rfl rfl rfl rfl rfl (.cons .int rfl (by repeat constructor) .nil)) rfl ?_
    rintro _ _ _ _ ⟨rfl, by_, rfl, rfl⟩
    refine oPersist fun h2 ho2 hd2 => ?_
    have hb2 : Byt (F.un h2) (.slice (some ⟨by_, 0, none⟩) 1 1) [UInt8.ofNat (48 + m)] := ⟨rfl, _, 1, rfl, Nat.le_refl _, fun _ => ⟨by_, 0, rfl, blk_cells ho2 hd2⟩⟩
    have hF2 : F.le (F.un h2) := PH.le_l _ _
    generalize F.un h2 = F2 at *
    refine oS (ev_bytes_string rfl hb2.rds rfl rfl rfl) rfl ?_
    repeat (first|refine zJ rfl rfl ?_|refine jr rfl ?_|refine jn ?_|refine zM rfl rfl ?_|(refine zC rfl rfl ?_ rfl ?_;omega)|(refine zD rfl rfl ?_ rfl ?_;omega)|(refine zP rfl ?_ rfl ?_;omega)|refine zG rfl rfl rfl rfl ?_|(refine jdq rfl rfl ?_ ?_ ?_;kernel_rfl;kernel_rfl)|refine zB rfl rfl rfl (by repeat constructor) rfl ?_|refine zH .here rfl rfl rfl rfl ?_|refine zH (.there .here) rfl rfl rfl rfl ?_|refine zH (.there (.there .here)) rfl rfl rfl rfl ?_|refine zH (.there (.there (.there .here))) rfl rfl rfl rfl ?_|refine zH (.there (.there (.there (.there .here)))) rfl rfl rfl rfl ?_)
    refine oS (ev_cat rfl rfl (by simp; omega)) rfl ?_
    repeat (first|refine zJ rfl rfl ?_|refine jr rfl ?_|refine jn ?_|refine zM rfl rfl ?_|(refine zC rfl rfl ?_ rfl ?_;omega)|(refine zD rfl rfl ?_ rfl ?_;omega)|(refine zP rfl ?_ rfl ?_;omega)|refine zG rfl rfl rfl rfl ?_|(refine jdq rfl rfl ?_ ?_ ?_;kernel_rfl;kernel_rfl)|refine zB rfl rfl rfl (by repeat constructor) rfl ?_|refine zH .here rfl rfl rfl rfl ?_|refine zH (.there .here) rfl rfl rfl rfl ?_|refine zH (.there (.there .here)) rfl rfl rfl rfl ?_|refine zH (.there (.there (.there .here))) rfl rfl rfl rfl ?_|refine zH (.there (.there (.there (.there .here)))) rfl rfl rfl rfl ?_)
    refine J_again2 (n / 10) ([UInt8.ofNat (48 + m)] ++ out) ⟨hn, by omega⟩ (by omega) ?_
    rw [hq]
    exact ⟨⟨rfl, rfl, trivial⟩, fun w s => s.mono hF2⟩
  · obtain rfl : n = 0 := by omega
    have hn' : out = R := by rw [← hn]; rfl
    subst hn'
    repeat (first|refine zJ rfl rfl ?_|refine jr rfl ?_|refine jn ?_|refine zM rfl rfl ?_|(refine zC rfl rfl ?_ rfl ?_;omega)|(refine zD rfl rfl ?_ rfl ?_;omega)|(refine zP rfl ?_ rfl ?_;omega)|refine zG rfl rfl rfl rfl ?_|(refine jdq rfl rfl ?_ ?_ ?_;kernel_rfl;kernel_rfl)|refine zB rfl rfl rfl (by repeat constructor) rfl ?_|refine zH .here rfl rfl rfl rfl ?_|refine zH (.there .here) rfl rfl rfl rfl ?_|refine zH (.there (.there .here)) rfl rfl rfl rfl ?_|refine zH (.there (.there (.there .here))) rfl rfl rfl rfl ?_|refine zH (.there (.there (.there (.there .here)))) rfl rfl rfl rfl ?_)
    exact J_ret1 rfl rfl [] rfl (PH.ler _) ⟨rfl, rfl⟩
theorem itoa_nat (n : Nat) : Lib.itoa (n : Int) = preD (n / 10) ++ [UInt8.ofNat (48 + n % 10)] := by
  unfold Lib.itoa
  rw [if_neg (by omega), Int.toNat_natCast, dec_step]
set_option maxHeartbeats 4000000 in
theorem digits_spec (n : Nat) (F : PH) (hn : n ≤ 9223372036854775807) : Pure Tryd.prog 31 [.int .i64 n] F (.string (strOf (Lib.itoa n))) := by
  have hlen := Lib.itoa_length_le (n : Int) (by omega) (by omega)
  rw [itoa_nat] at hlen ⊢
  refine Spec.of1 Tryd.func31 rfl rfl fun X w0 => ?_
  repeat (first|refine zJ rfl rfl ?_|refine jr rfl ?_|refine jn ?_|refine zM rfl rfl ?_|(refine zC rfl rfl ?_ rfl ?_;omega)|(refine zD rfl rfl ?_ rfl ?_;omega)|(refine zP rfl ?_ rfl ?_;omega)|refine zG rfl rfl rfl rfl ?_|(refine jdq rfl rfl ?_ ?_ ?_;kernel_rfl;kernel_rfl)|refine zB rfl rfl rfl (by repeat constructor) rfl ?_|refine zH .here rfl rfl rfl rfl ?_|refine zH (.there .here) rfl rfl rfl rfl ?_|refine zH (.there (.there .here)) rfl rfl rfl rfl ?_|refine zH (.there (.there (.there .here))) rfl rfl rfl rfl ?_|refine zH (.there (.there (.there (.there .here)))) rfl rfl rfl rfl ?_)
  rw [show (n : Int) / 10 = ((n / 10 : Nat) : Int) from by omega, show (n : Int) % 10 = ((n % 10 : Nat) : Int) from by omega]
  refine oP (positive_spec (n / 10) (n % 10) F (Nat.mod_lt _ (by omega)) (by omega) (by omega)) Tryd.call38 rfl rfl ?_
  refine oS (ev_cat (a := []) rfl rfl (by simp at hlen ⊢; omega)) rfl ?_
  rw [List.nil_append]
  repeat (first|refine zJ rfl rfl ?_|refine jr rfl ?_|refine jn ?_|refine zM rfl rfl ?_|(refine zC rfl rfl ?_ rfl ?_;omega)|(refine zD rfl rfl ?_ rfl ?_;omega)|(refine zP rfl ?_ rfl ?_;omega)|refine zG rfl rfl rfl rfl ?_|(refine jdq rfl rfl ?_ ?_ ?_;kernel_rfl;kernel_rfl)|refine zB rfl rfl rfl (by repeat constructor) rfl ?_|refine zH .here rfl rfl rfl rfl ?_|refine zH (.there .here) rfl rfl rfl rfl ?_|refine zH (.there (.there .here)) rfl rfl rfl rfl ?_|refine zH (.there (.there (.there .here))) rfl rfl rfl rfl ?_|refine zH (.there (.there (.there (.there .here)))) rfl rfl rfl rfl ?_)
  exact J_ret1 rfl rfl [] rfl (PH.ler _) ⟨rfl, rfl⟩
set_option maxHeartbeats 8000000 in
theorem sameT_spec (v v' : Value) (L : List (List UInt8)) (F : PH) (hv : SliceV F 1 v L.length (strC L)) (hv' : SliceV F 1 v' L.length (strC L)) (hL : L.length ≤ 1000) :
    Pure Tryd.prog 17 [v, v'] F (.bool true) := by
  obtain ⟨_, a, c, rfl, _, hcells⟩ := id hv
  obtain ⟨_, a', c', rfl, _, hcells'⟩ := id hv'
  refine Spec.of2 Tryd.func17 rfl rfl fun X w0 => ?_
  repeat (first|refine zJ rfl rfl ?_|refine jr rfl ?_|refine jn ?_|refine zM rfl rfl ?_|(refine zC rfl rfl ?_ rfl ?_;omega)|(refine zD rfl rfl ?_ rfl ?_;omega)|(refine zP rfl ?_ rfl ?_;omega)|refine zG rfl rfl rfl rfl ?_|(refine jdq rfl rfl ?_ ?_ ?_;kernel_rfl;kernel_rfl)|refine zB rfl rfl rfl (by repeat constructor) rfl ?_|refine zH .here rfl rfl rfl rfl ?_|refine zH (.there .here) rfl rfl rfl rfl ?_|refine zH (.there (.there .here)) rfl rfl rfl rfl ?_|refine zH (.there (.there (.there .here))) rfl rfl rfl rfl ?_|refine zH (.there (.there (.there (.there .here)))) rfl rfl rfl rfl ?_)
  refine J_loop (ι := Nat) (fun i => i ≤ L.length) (fun i => L.length - i) (fun i => [(0, .slice a L.length c), (1, .slice a' L.length c'), (12, .int .i64 L.length), (13, .int .i64 i)]) (fun _ => F) (fun _ => X) 0 (Nat.zero_le _) ⟨⟨rfl, rfl, rfl, rfl, trivial⟩, fun w s => s⟩ ?_
  intro i hi
  by_cases hlt : i < L.length
  · have hx : (strC L)[i]? = some (.string (strOf L[i])) := by unfold strC; rw [List.getElem?_map, List.getElem?_eq_getElem hlt]; rfl
    obtain ⟨b, off, rfl, hc⟩ := hcells (by omega)
    obtain ⟨b', off', rfl, hc'⟩ := hcells' (by omega)
    have one : ∀ {b off : Nat}, Cells F b off (strC L) → Cells F b (off + i * 1) [.string (strOf L[i])] := fun {b off} h j u hj => by
      cases j with
      | zero =>
        rw [Nat.mul_one, Nat.add_zero]
        refine h i u ?_
        rw [hx]
        exact hj
      | succ j => simp at hj
    have h1 := one hc
    have h2 := one hc'
    generalize L[i] = x at *
    repeat (first|refine zJ rfl rfl ?_|refine jr rfl ?_|refine jn ?_|refine zM rfl rfl ?_|(refine zC rfl rfl ?_ rfl ?_;omega)|(refine zD rfl rfl ?_ rfl ?_;omega)|(refine zP rfl ?_ rfl ?_;omega)|refine zG rfl rfl rfl rfl ?_|(refine jdq rfl rfl ?_ ?_ ?_;kernel_rfl;kernel_rfl)|refine zB rfl rfl rfl (by repeat constructor) rfl ?_|refine zH .here rfl rfl rfl rfl ?_|refine zH (.there .here) rfl rfl rfl rfl ?_|refine zH (.there (.there .here)) rfl rfl rfl rfl ?_|refine zH (.there (.there (.there .here))) rfl rfl rfl rfl ?_|refine zH (.there (.there (.there (.there .here)))) rfl rfl rfl rfl ?_)
    refine oS (ev_indexAddr rfl rfl rfl hlt) rfl ?_
    refine oS (ev_load rfl rfl (Rdb.ofF h1)) rfl ?_
    repeat (first|refine zJ rfl rfl ?_|refine jr rfl ?_|refine jn ?_|refine zM rfl rfl ?_|(refine zC rfl rfl ?_ rfl ?_;omega)|(refine zD rfl rfl ?_ rfl ?_;omega)|(refine zP rfl ?_ rfl ?_;omega)|refine zG rfl rfl rfl rfl ?_|(refine jdq rfl rfl ?_ ?_ ?_;kernel_rfl;kernel_rfl)|refine zB rfl rfl rfl (by repeat constructor) rfl ?_|refine zH .here rfl rfl rfl rfl ?_|refine zH (.there .here) rfl rfl rfl rfl ?_|refine zH (.there (.there .here)) rfl rfl rfl rfl ?_|refine zH (.there (.there (.there .here))) rfl rfl rfl rfl ?_|refine zH (.there (.there (.there (.there .here)))) rfl rfl rfl rfl ?_)
    refine oS (ev_indexAddr rfl rfl rfl hlt) rfl ?_
    refine oS (ev_load rfl rfl (Rdb.ofF h2)) rfl ?_
    refine oS (ev_str_neq rfl rfl) rfl ?_
    rw [show (!decide ((strOf x).toList = (strOf x).toList)) = false from by simp]
    repeat (first|refine zJ rfl rfl ?_|refine jr rfl ?_|refine jn ?_|refine zM rfl rfl ?_|(refine zC rfl rfl ?_ rfl ?_;omega)|(refine zD rfl rfl ?_ rfl ?_;omega)|(refine zP rfl ?_ rfl ?_;omega)|refine zG rfl rfl rfl rfl ?_|(refine jdq rfl rfl ?_ ?_ ?_;kernel_rfl;kernel_rfl)|refine zB rfl rfl rfl (by repeat constructor) rfl ?_|refine zH .here rfl rfl rfl rfl ?_|refine zH (.there .here) rfl rfl rfl rfl ?_|refine zH (.there (.there .here)) rfl rfl rfl rfl ?_|refine zH (.there (.there (.there .here))) rfl rfl rfl rfl ?_|refine zH (.there (.there (.there (.there .here)))) rfl rfl rfl rfl ?_)
    exact J_again (i + 1) (by omega) (by omega) ⟨⟨rfl, rfl, rfl, rfl, trivial⟩, fun w s => s⟩
  · obtain rfl : i = L.length := by omega
    repeat (first|refine zJ rfl rfl ?_|refine jr rfl ?_|refine jn ?_|refine zM rfl rfl ?_|(refine zC rfl rfl ?_ rfl ?_;omega)|(refine zD rfl rfl ?_ rfl ?_;omega)|(refine zP rfl ?_ rfl ?_;omega)|refine zG rfl rfl rfl rfl ?_|(refine jdq rfl rfl ?_ ?_ ?_;kernel_rfl;kernel_rfl)|refine zB rfl rfl rfl (by repeat constructor) rfl ?_|refine zH .here rfl rfl rfl rfl ?_|refine zH (.there .here) rfl rfl rfl rfl ?_|refine zH (.there (.there .here)) rfl rfl rfl rfl ?_|refine zH (.there (.there (.there .here))) rfl rfl rfl rfl ?_|refine zH (.there (.there (.there (.there .here)))) rfl rfl rfl rfl ?_)
    exact J_ret1 rfl rfl [] rfl (PH.ler _) ⟨rfl, rfl⟩
end Go.Proofs.YtmicjjhkoicdnaaDoor
