/-
  The schedule of a block of 64 bytes. Conditions are typed with each.
  A block's round, the program's. Conditions are typed with each.
-/
import Derived.Test.YtohlmhoacjodjaaSa
import Derived.Test.YtohlmhoacjodjaaKv
namespace Go.Proofs.Ytohlmhoacjodjaa
open Go.RowKit
set_option maxRecDepth 100000
/-- A word of a block, the highest byte first. -/
def wordB (b : List UInt8) (i : Nat) : W := BitVec.ofNat 32 (numB ((b.drop (4 * i)).take 4))
def nextW (b : List UInt8) (l : List W) (i : Nat) : W :=
  if i < 16 then wordB b i else l.getD (i - 16) 0 + (rot 7 (l.getD (i - 15) 0) ^^^ rot 18 (l.getD (i - 15) 0) ^^^ l.getD (i - 15) 0 >>> 3) + l.getD (i - 7) 0 + (rot 17 (l.getD (i - 2) 0) ^^^ rot 19 (l.getD (i - 2) 0) ^^^ l.getD (i - 2) 0 >>> 10)
def sch (b : List UInt8) : Nat → List W
  | 0 => []
  | i + 1 => sch b i ++ [nextW b (sch b i) i]
theorem sch_succ (b : List UInt8) (i : Nat) : sch b (i + 1) = sch b i ++ [nextW b (sch b i) i] := rfl
theorem sch_len (b : List UInt8) (i : Nat) : (sch b i).length = i := by
  induction i with
  | zero => rfl
  | succ i ih => rw [sch_succ]; simp [ih]
def schC (b : List UInt8) (i : Nat) : List Value := w32s (sch b i) ++ List.replicate (64 - i) (.int .u32 0)
theorem schC_len (b : List UInt8) {i : Nat} (h : i ≤ 64) : (schC b i).length = 64 := by
  unfold schC; rw [List.length_append, w32s_len, sch_len]; simp; omega
theorem schC_set (b : List UInt8) {i : Nat} (h : i < 64) : (schC b i).set i (w32 (nextW b (sch b i) i)) = schC b (i + 1) := by
  have h1 : (w32s (sch b i)).length = i := by rw [w32s_len, sch_len]
  unfold schC
  rw [List.set_append_right _ _ (by omega), h1, Nat.sub_self, show 64 - i = (64 - (i + 1)) + 1 from by omega, List.replicate_succ, List.set_cons_zero, sch_succ]
  simp [w32s]
theorem schC_lay (b : List UInt8) {i : Nat} {v : W} (h : i < 64) (hv : nextW b (sch b i) i = v) : Lay (0 + i * 1) [w32 v] (schC b i) (schC b (i + 1)) := by
  rw [Nat.zero_add, Nat.mul_one, ← schC_set b h, hv]
  exact lay_set _ (by rw [schC_len b (by omega)]; exact h)
theorem words_at {l : List W} {rest : List Value} {j : Nat} (h : j < l.length) : ((w32s l ++ rest).drop (0 + j * 1)).take 1 = [w32 (l.getD j 0)] := by
  have h1 : (w32s l ++ rest)[j]? = some (w32 (l.getD j 0)) := by
    rw [List.getElem?_append_left (by rw [w32s_len]; exact h)]
    simp [w32s, h, List.getD_eq_getElem?_getD]
  rw [Nat.zero_add, Nat.mul_one, List.drop_eq_getElem_cons (by simp [w32s]; omega)]
  rw [List.getElem?_eq_some_iff] at h1
  obtain ⟨h2, h3⟩ := h1
  rw [h3]
  rfl
theorem words_at' {l : List W} {r : List Value} {j : Nat} (h : j < l.length) (hr : r.take l.length = w32s l) : (r.drop (0 + j * 1)).take 1 = [w32 (l.getD j 0)] := by
  have e : r = w32s l ++ r.drop l.length := by rw [← hr, List.take_append_drop]
  rw [e]
  exact words_at h
theorem schC_take (b : List UInt8) {i k : Nat} (hik : i ≤ k) : (schC b k).take i = w32s (sch b i) := by
  have h1 : ∀ m, (sch b (i + m)).take i = sch b i := by
    intro m
    induction m with
    | zero => rw [Nat.add_zero, List.take_of_length_le (by rw [sch_len]; exact Nat.le_refl _)]
    | succ m ih => rw [← Nat.add_assoc, sch_succ, List.take_append_of_le_length (by rw [sch_len]; omega), ih]
  unfold schC
  rw [List.take_append_of_le_length (by rw [w32s_len, sch_len]; exact hik)]
  have := h1 (k - i)
  rw [show i + (k - i) = k from by omega] at this
  unfold w32s
  rw [← List.map_take, this]
theorem schC_at (b : List UInt8) {i j : Nat} (h : j < i) : ((schC b i).drop (0 + j * 1)).take 1 = [w32 ((sch b i).getD j 0)] := words_at (by rw [sch_len]; exact h)
/-- Block b, of which something is known. -/
def blkP (b : Nat) (E : TypeId) (p : List Value → Prop) : Asrt := fun h => ∃ r, p r ∧ blk b E r h
theorem Sat.blkP {F : PH} {H : List Asrt} {b E : Nat} {r : List Value} {p : List Value → Prop} {w : World} (s : Sat F (blk b E r :: H) w) (h : p r) : Sat F [Go.Proofs.Ytohlmhoacjodjaa.blkP b E p] w := (s.turn fun _ hA => ⟨r, h, hA⟩).head
theorem Rdb.ofP {F : PH} {b E off : Nat} {p : List Value → Prop} {cs : List Value} (h : ∀ r, p r → (r.drop off).take cs.length = cs) : Rdb F [blkP b E p] b off cs := fun w s => by
  obtain ⟨r, hr, hd, hl⟩ := s
  obtain ⟨h1, h2, ⟨r', hp, hb⟩, rfl, hdj, rfl⟩ := hr
  exact Rdb.ofB (F := F) (H := [blk b E r']) (Hr := []) (n := 0) .here (h r' hp) w ⟨_, ⟨h1, PH.emp, hb, rfl, hdj, rfl⟩, hd, hl⟩
theorem cut_at {b off c lo n : Nat} (h : lo < n) (hc : n ≤ c) : cutV (some ⟨b, off, none⟩) 1 c lo n c = .slice (some ⟨b, off + lo, none⟩) (n - lo) (c - lo) := by
  unfold cutV
  rw [if_neg (by omega)]
  simp [adr_add]
theorem four_bytes {c0 c1 c2 c3 : UInt8} : ((BitVec.ofNat 32 c0.toNat <<< 24 ||| BitVec.ofNat 32 c1.toNat <<< 16) ||| BitVec.ofNat 32 c2.toNat <<< 8) ||| BitVec.ofNat 32 c3.toNat = BitVec.ofNat 32 (numB [c0, c1, c2, c3]) := by
  have h0 := c0.toNat_lt
  have h1 := c1.toNat_lt
  have h2 := c2.toNat_lt
  have h3 := c3.toNat_lt
  apply BitVec.eq_of_toNat_eq
  have e : numB [c0, c1, c2, c3] = ((c0.toNat * 256 + c1.toNat) * 256 + c2.toNat) * 256 + c3.toNat := by simp [numB]
  rw [e]
  simp only [BitVec.toNat_or, BitVec.toNat_shiftLeft, BitVec.toNat_ofNat, Nat.shiftLeft_eq]
  generalize c0.toNat = a at *
  generalize c1.toNat = b at *
  generalize c2.toNat = c at *
  generalize c3.toNat = d at *
  simp only [Nat.reducePow]
  clear e
  have e0 : a % 4294967296 * 16777216 % 4294967296 = 16777216 * a := by rw [Nat.mod_eq_of_lt (by omega), Nat.mul_comm, Nat.mod_eq_of_lt (by omega)]
  have e1 : b % 4294967296 * 65536 % 4294967296 = 65536 * b := by rw [Nat.mod_eq_of_lt (by omega), Nat.mul_comm, Nat.mod_eq_of_lt (by omega)]
  have e2 : c % 4294967296 * 256 % 4294967296 = 256 * c := by rw [Nat.mod_eq_of_lt (by omega), Nat.mul_comm, Nat.mod_eq_of_lt (by omega)]
  have e3 : d % 4294967296 = d := by omega
  have o1 : 16777216 * a + 65536 * b = 16777216 * a ||| 65536 * b := Nat.two_pow_add_eq_or_of_lt (i := 24) (show 65536 * b < 16777216 by omega) a
  have o2 : 65536 * (256 * a + b) + 256 * c = 65536 * (256 * a + b) ||| 256 * c := Nat.two_pow_add_eq_or_of_lt (i := 16) (show 256 * c < 65536 by omega) (256 * a + b)
  have o3 : 256 * (256 * (256 * a + b) + c) + d = 256 * (256 * (256 * a + b) + c) ||| d := Nat.two_pow_add_eq_or_of_lt (i := 8) (show d < 256 by omega) (256 * (256 * a + b) + c)
  rw [e0, e1, e2, e3, ← o1, show 16777216 * a + 65536 * b = 65536 * (256 * a + b) from by omega, ← o2,
    show 65536 * (256 * a + b) + 256 * c = 256 * (256 * (256 * a + b) + c) from by omega, ← o3]
  omega
theorem take_four {bs : List UInt8} {j : Nat} (h : j + 4 ≤ bs.length) : (bs.drop j).take 4 = [bs[j], bs[j + 1], bs[j + 2], bs[j + 3]] := by
  rw [List.drop_eq_getElem_cons (by omega), List.drop_eq_getElem_cons (by omega), List.drop_eq_getElem_cons (by omega), List.drop_eq_getElem_cons (by omega)]
  rfl
set_option maxHeartbeats 16000000 in
theorem schedule_spec (a : Option Addr) (c : Nat) (bs : List UInt8) (F : PH) (h : Byt F (.slice a bs.length c) bs) (hc : bs.length ≤ c) (h64 : 64 ≤ bs.length) (hl : bs.length ≤ 1099511627776) :
    Pure Try.prog 71 [.slice a bs.length c] F (.agg (w32s (sch bs 64)).toArray) := by
  obtain ⟨b, off, rfl, _⟩ := h.at (j := 0) (by omega)
  refine Spec.of1 Try.func71 rfl rfl fun X w0 => ?_
  refine jc rfl rfl ?_
  refine jr rfl ?_
  refine oE (ev_alloc (cs := z64) rfl) rfl ?_
  rintro _ _ _ _ ⟨rfl, b2, rfl, rfl⟩
  refine jn ?_
  refine jc rfl rfl ?_
  refine jr rfl ?_
  refine oE (ev_alloc (cs := z64) rfl) rfl ?_
  rintro _ _ _ _ ⟨rfl, b3, rfl, rfl⟩
  repeat (first|refine zJ rfl rfl ?_|refine jr rfl ?_|refine jn ?_|refine zM rfl rfl ?_|(refine zC rfl rfl ?_ rfl ?_;omega)|(refine zD rfl rfl ?_ rfl ?_;omega)|(refine zP rfl ?_ rfl ?_;omega)|refine zG rfl rfl rfl rfl ?_|(refine jdq rfl rfl ?_ ?_ ?_;kernel_rfl;kernel_rfl)|refine zB rfl rfl rfl (by repeat constructor) rfl ?_)
  refine J_loop (ι := Nat) (fun i => i ≤ 16) (fun i => 16 - i) (fun i => [(0, .slice (some ⟨b, off, none⟩) bs.length c), (2, .pointer (some ⟨b2, 0, none⟩)), (3, .pointer (some ⟨b3, 0, none⟩)), (9, .int .i64 i)]) (fun _ => F)
    (fun i => blk b3 121 (schC bs i) :: blk b2 121 z64 :: X) 0 (Nat.zero_le _) ⟨⟨rfl, rfl, rfl, rfl, trivial⟩, fun _ s => s⟩ ?_
  intro i hi
  by_cases hlt : i < 16
  · have cell : ∀ j, (hj : 4 * i + j < bs.length) → Cells F b (off + 4 * i + j * 1) [.int .u8 (bs[4 * i + j].toNat : Int)] := fun j hj => by
      obtain ⟨b', off', e, hh⟩ := h.at hj
      cases e
      rwa [show off + 4 * i + j * 1 = off + (4 * i + j) * 1 from by omega]
    have c0 := cell 0 (by omega)
    have c1 := cell 1 (by omega)
    have c2 := cell 2 (by omega)
    have c3 := cell 3 (by omega)
    have hw : nextW bs (sch bs i) i = ((BitVec.ofNat 32 bs[4 * i + 0].toNat <<< 24 ||| BitVec.ofNat 32 bs[4 * i + 1].toNat <<< 16) ||| BitVec.ofNat 32 bs[4 * i + 2].toNat <<< 8) ||| BitVec.ofNat 32 bs[4 * i + 3].toNat := by
      rw [four_bytes]
      unfold nextW wordB
      rw [if_pos hlt, take_four (by omega)]
      rfl
    repeat (first|refine zJ rfl rfl ?_|refine jr rfl ?_|refine jn ?_|refine zM rfl rfl ?_|(refine zC rfl rfl ?_ rfl ?_;omega)|(refine zD rfl rfl ?_ rfl ?_;omega)|(refine zP rfl ?_ rfl ?_;omega)|refine zG rfl rfl rfl rfl ?_|(refine jdq rfl rfl ?_ ?_ ?_;kernel_rfl;kernel_rfl)|refine zB rfl rfl rfl (by repeat constructor) rfl ?_)
    rw [show (4 : Int) * (i : Int) = ((4 * i : Nat) : Int) from by omega]
    refine oS (ev_slice_lo (lo := 4 * i) rfl rfl rfl (by omega)) rfl ?_
    rw [cut_at (by omega) hc]
    repeat (first|refine zJ rfl rfl ?_|refine jr rfl ?_|refine jn ?_|refine zM rfl rfl ?_|(refine zC rfl rfl ?_ rfl ?_;omega)|(refine zD rfl rfl ?_ rfl ?_;omega)|(refine zP rfl ?_ rfl ?_;omega)|refine zG rfl rfl rfl rfl ?_|(refine jdq rfl rfl ?_ ?_ ?_;kernel_rfl;kernel_rfl)|refine zB rfl rfl rfl (by repeat constructor) rfl ?_)
    refine ja F [] ?_ ?_ ?_; kernel_rfl
    · exact fun w s => s.bare
    refine aT 0 rfl (ev_pv rfl) rfl rfl ?_ ?_ ?_ ?_; kernel_rfl; kernel_rfl; kernel_rfl
    refine aT 1 rfl (ev_pv rfl) rfl rfl ?_ ?_ ?_ ?_; kernel_rfl; kernel_rfl; kernel_rfl
    refine aT 2 rfl (ev_indexAddr (i := 0) rfl rfl rfl (by omega)) rfl rfl ?_ ?_ ?_ ?_; kernel_rfl; kernel_rfl; kernel_rfl
    refine aT 3 rfl (ev_load rfl rfl (Rdb.ofF c0)) rfl rfl ?_ ?_ ?_ ?_; kernel_rfl; kernel_rfl; kernel_rfl
    (first | refine aT 4 rfl (ev_pv rfl) rfl rfl ?_ ?_ ?_ ?_ | refine aT 4 rfl (eu rfl rfl rfl) rfl rfl ?_ ?_ ?_ ?_ | refine aT 4 rfl (ewc rfl rfl rfl) rfl rfl ?_ ?_ ?_ ?_ | refine aT 4 rfl (eusl rfl rfl (by decide)) rfl rfl ?_ ?_ ?_ ?_ | refine aT 4 rfl (eus rfl rfl (by decide)) rfl rfl ?_ ?_ ?_ ?_ | refine aT 4 rfl (eun rfl) rfl rfl ?_ ?_ ?_ ?_ | (refine aT 4 rfl (ea rfl rfl rfl ?_) rfl rfl ?_ ?_ ?_ ?_; (dsimp only [InK]; first | omega | exact ⟨Int.natCast_nonneg _, by omega⟩))); kernel_rfl; kernel_rfl; kernel_rfl
    (first | refine aT 5 rfl (ev_pv rfl) rfl rfl ?_ ?_ ?_ ?_ | refine aT 5 rfl (eu rfl rfl rfl) rfl rfl ?_ ?_ ?_ ?_ | refine aT 5 rfl (ewc rfl rfl rfl) rfl rfl ?_ ?_ ?_ ?_ | refine aT 5 rfl (eusl rfl rfl (by decide)) rfl rfl ?_ ?_ ?_ ?_ | refine aT 5 rfl (eus rfl rfl (by decide)) rfl rfl ?_ ?_ ?_ ?_ | refine aT 5 rfl (eun rfl) rfl rfl ?_ ?_ ?_ ?_ | (refine aT 5 rfl (ea rfl rfl rfl ?_) rfl rfl ?_ ?_ ?_ ?_; (dsimp only [InK]; first | omega | exact ⟨Int.natCast_nonneg _, by omega⟩))); kernel_rfl; kernel_rfl; kernel_rfl
    (first | refine aT 6 rfl (ev_pv rfl) rfl rfl ?_ ?_ ?_ ?_ | refine aT 6 rfl (eu rfl rfl rfl) rfl rfl ?_ ?_ ?_ ?_ | refine aT 6 rfl (ewc rfl rfl rfl) rfl rfl ?_ ?_ ?_ ?_ | refine aT 6 rfl (eusl rfl rfl (by decide)) rfl rfl ?_ ?_ ?_ ?_ | refine aT 6 rfl (eus rfl rfl (by decide)) rfl rfl ?_ ?_ ?_ ?_ | refine aT 6 rfl (eun rfl) rfl rfl ?_ ?_ ?_ ?_ | (refine aT 6 rfl (ea rfl rfl rfl ?_) rfl rfl ?_ ?_ ?_ ?_; (dsimp only [InK]; first | omega | exact ⟨Int.natCast_nonneg _, by omega⟩))); kernel_rfl; kernel_rfl; kernel_rfl
    refine aT 7 rfl (ev_indexAddr (i := 1) rfl rfl rfl (by omega)) rfl rfl ?_ ?_ ?_ ?_; kernel_rfl; kernel_rfl; kernel_rfl
    refine aT 8 rfl (ev_load rfl rfl (Rdb.ofF c1)) rfl rfl ?_ ?_ ?_ ?_; kernel_rfl; kernel_rfl; kernel_rfl
    (first | refine aT 9 rfl (ev_pv rfl) rfl rfl ?_ ?_ ?_ ?_ | refine aT 9 rfl (eu rfl rfl rfl) rfl rfl ?_ ?_ ?_ ?_ | refine aT 9 rfl (ewc rfl rfl rfl) rfl rfl ?_ ?_ ?_ ?_ | refine aT 9 rfl (eusl rfl rfl (by decide)) rfl rfl ?_ ?_ ?_ ?_ | refine aT 9 rfl (eus rfl rfl (by decide)) rfl rfl ?_ ?_ ?_ ?_ | refine aT 9 rfl (eun rfl) rfl rfl ?_ ?_ ?_ ?_ | (refine aT 9 rfl (ea rfl rfl rfl ?_) rfl rfl ?_ ?_ ?_ ?_; (dsimp only [InK]; first | omega | exact ⟨Int.natCast_nonneg _, by omega⟩))); kernel_rfl; kernel_rfl; kernel_rfl
    (first | refine aT 10 rfl (ev_pv rfl) rfl rfl ?_ ?_ ?_ ?_ | refine aT 10 rfl (eu rfl rfl rfl) rfl rfl ?_ ?_ ?_ ?_ | refine aT 10 rfl (ewc rfl rfl rfl) rfl rfl ?_ ?_ ?_ ?_ | refine aT 10 rfl (eusl rfl rfl (by decide)) rfl rfl ?_ ?_ ?_ ?_ | refine aT 10 rfl (eus rfl rfl (by decide)) rfl rfl ?_ ?_ ?_ ?_ | refine aT 10 rfl (eun rfl) rfl rfl ?_ ?_ ?_ ?_ | (refine aT 10 rfl (ea rfl rfl rfl ?_) rfl rfl ?_ ?_ ?_ ?_; (dsimp only [InK]; first | omega | exact ⟨Int.natCast_nonneg _, by omega⟩))); kernel_rfl; kernel_rfl; kernel_rfl
    (first | refine aT 11 rfl (ev_pv rfl) rfl rfl ?_ ?_ ?_ ?_ | refine aT 11 rfl (eu rfl rfl rfl) rfl rfl ?_ ?_ ?_ ?_ | refine aT 11 rfl (ewc rfl rfl rfl) rfl rfl ?_ ?_ ?_ ?_ | refine aT 11 rfl (eusl rfl rfl (by decide)) rfl rfl ?_ ?_ ?_ ?_ | refine aT 11 rfl (eus rfl rfl (by decide)) rfl rfl ?_ ?_ ?_ ?_ | refine aT 11 rfl (eun rfl) rfl rfl ?_ ?_ ?_ ?_ | (refine aT 11 rfl (ea rfl rfl rfl ?_) rfl rfl ?_ ?_ ?_ ?_; (dsimp only [InK]; first | omega | exact ⟨Int.natCast_nonneg _, by omega⟩))); kernel_rfl; kernel_rfl; kernel_rfl
    (first | refine aT 12 rfl (ev_pv rfl) rfl rfl ?_ ?_ ?_ ?_ | refine aT 12 rfl (eu rfl rfl rfl) rfl rfl ?_ ?_ ?_ ?_ | refine aT 12 rfl (ewc rfl rfl rfl) rfl rfl ?_ ?_ ?_ ?_ | refine aT 12 rfl (eusl rfl rfl (by decide)) rfl rfl ?_ ?_ ?_ ?_ | refine aT 12 rfl (eus rfl rfl (by decide)) rfl rfl ?_ ?_ ?_ ?_ | refine aT 12 rfl (eun rfl) rfl rfl ?_ ?_ ?_ ?_ | (refine aT 12 rfl (ea rfl rfl rfl ?_) rfl rfl ?_ ?_ ?_ ?_; (dsimp only [InK]; first | omega | exact ⟨Int.natCast_nonneg _, by omega⟩))); kernel_rfl; kernel_rfl; kernel_rfl
    refine aT 13 rfl (ev_indexAddr (i := 2) rfl rfl rfl (by omega)) rfl rfl ?_ ?_ ?_ ?_; kernel_rfl; kernel_rfl; kernel_rfl
    refine aT 14 rfl (ev_load rfl rfl (Rdb.ofF c2)) rfl rfl ?_ ?_ ?_ ?_; kernel_rfl; kernel_rfl; kernel_rfl
    (first | refine aT 15 rfl (ev_pv rfl) rfl rfl ?_ ?_ ?_ ?_ | refine aT 15 rfl (eu rfl rfl rfl) rfl rfl ?_ ?_ ?_ ?_ | refine aT 15 rfl (ewc rfl rfl rfl) rfl rfl ?_ ?_ ?_ ?_ | refine aT 15 rfl (eusl rfl rfl (by decide)) rfl rfl ?_ ?_ ?_ ?_ | refine aT 15 rfl (eus rfl rfl (by decide)) rfl rfl ?_ ?_ ?_ ?_ | refine aT 15 rfl (eun rfl) rfl rfl ?_ ?_ ?_ ?_ | (refine aT 15 rfl (ea rfl rfl rfl ?_) rfl rfl ?_ ?_ ?_ ?_; (dsimp only [InK]; first | omega | exact ⟨Int.natCast_nonneg _, by omega⟩))); kernel_rfl; kernel_rfl; kernel_rfl
    (first | refine aT 16 rfl (ev_pv rfl) rfl rfl ?_ ?_ ?_ ?_ | refine aT 16 rfl (eu rfl rfl rfl) rfl rfl ?_ ?_ ?_ ?_ | refine aT 16 rfl (ewc rfl rfl rfl) rfl rfl ?_ ?_ ?_ ?_ | refine aT 16 rfl (eusl rfl rfl (by decide)) rfl rfl ?_ ?_ ?_ ?_ | refine aT 16 rfl (eus rfl rfl (by decide)) rfl rfl ?_ ?_ ?_ ?_ | refine aT 16 rfl (eun rfl) rfl rfl ?_ ?_ ?_ ?_ | (refine aT 16 rfl (ea rfl rfl rfl ?_) rfl rfl ?_ ?_ ?_ ?_; (dsimp only [InK]; first | omega | exact ⟨Int.natCast_nonneg _, by omega⟩))); kernel_rfl; kernel_rfl; kernel_rfl
    (first | refine aT 17 rfl (ev_pv rfl) rfl rfl ?_ ?_ ?_ ?_ | refine aT 17 rfl (eu rfl rfl rfl) rfl rfl ?_ ?_ ?_ ?_ | refine aT 17 rfl (ewc rfl rfl rfl) rfl rfl ?_ ?_ ?_ ?_ | refine aT 17 rfl (eusl rfl rfl (by decide)) rfl rfl ?_ ?_ ?_ ?_ | refine aT 17 rfl (eus rfl rfl (by decide)) rfl rfl ?_ ?_ ?_ ?_ | refine aT 17 rfl (eun rfl) rfl rfl ?_ ?_ ?_ ?_ | (refine aT 17 rfl (ea rfl rfl rfl ?_) rfl rfl ?_ ?_ ?_ ?_; (dsimp only [InK]; first | omega | exact ⟨Int.natCast_nonneg _, by omega⟩))); kernel_rfl; kernel_rfl; kernel_rfl
    (first | refine aT 18 rfl (ev_pv rfl) rfl rfl ?_ ?_ ?_ ?_ | refine aT 18 rfl (eu rfl rfl rfl) rfl rfl ?_ ?_ ?_ ?_ | refine aT 18 rfl (ewc rfl rfl rfl) rfl rfl ?_ ?_ ?_ ?_ | refine aT 18 rfl (eusl rfl rfl (by decide)) rfl rfl ?_ ?_ ?_ ?_ | refine aT 18 rfl (eus rfl rfl (by decide)) rfl rfl ?_ ?_ ?_ ?_ | refine aT 18 rfl (eun rfl) rfl rfl ?_ ?_ ?_ ?_ | (refine aT 18 rfl (ea rfl rfl rfl ?_) rfl rfl ?_ ?_ ?_ ?_; (dsimp only [InK]; first | omega | exact ⟨Int.natCast_nonneg _, by omega⟩))); kernel_rfl; kernel_rfl; kernel_rfl
    refine aT 19 rfl (ev_indexAddr (i := 3) rfl rfl rfl (by omega)) rfl rfl ?_ ?_ ?_ ?_; kernel_rfl; kernel_rfl; kernel_rfl
    refine aT 20 rfl (ev_load rfl rfl (Rdb.ofF c3)) rfl rfl ?_ ?_ ?_ ?_; kernel_rfl; kernel_rfl; kernel_rfl
    (first | refine aT 21 rfl (ev_pv rfl) rfl rfl ?_ ?_ ?_ ?_ | refine aT 21 rfl (eu rfl rfl rfl) rfl rfl ?_ ?_ ?_ ?_ | refine aT 21 rfl (ewc rfl rfl rfl) rfl rfl ?_ ?_ ?_ ?_ | refine aT 21 rfl (eusl rfl rfl (by decide)) rfl rfl ?_ ?_ ?_ ?_ | refine aT 21 rfl (eus rfl rfl (by decide)) rfl rfl ?_ ?_ ?_ ?_ | refine aT 21 rfl (eun rfl) rfl rfl ?_ ?_ ?_ ?_ | (refine aT 21 rfl (ea rfl rfl rfl ?_) rfl rfl ?_ ?_ ?_ ?_; (dsimp only [InK]; first | omega | exact ⟨Int.natCast_nonneg _, by omega⟩))); kernel_rfl; kernel_rfl; kernel_rfl
    (first | refine aT 22 rfl (ev_pv rfl) rfl rfl ?_ ?_ ?_ ?_ | refine aT 22 rfl (eu rfl rfl rfl) rfl rfl ?_ ?_ ?_ ?_ | refine aT 22 rfl (ewc rfl rfl rfl) rfl rfl ?_ ?_ ?_ ?_ | refine aT 22 rfl (eusl rfl rfl (by decide)) rfl rfl ?_ ?_ ?_ ?_ | refine aT 22 rfl (eus rfl rfl (by decide)) rfl rfl ?_ ?_ ?_ ?_ | refine aT 22 rfl (eun rfl) rfl rfl ?_ ?_ ?_ ?_ | (refine aT 22 rfl (ea rfl rfl rfl ?_) rfl rfl ?_ ?_ ?_ ?_; (dsimp only [InK]; first | omega | exact ⟨Int.natCast_nonneg _, by omega⟩))); kernel_rfl; kernel_rfl; kernel_rfl
    refine aT 23 rfl (ev_indexAddr_arr rfl rfl rfl (show i < 64 by omega)) rfl rfl ?_ ?_ ?_ ?_; kernel_rfl; kernel_rfl; kernel_rfl
    refine aB (i := 24) (by kernel_rfl) (aN rfl (ev_store (b := b3) (off := 0 + i * 1) rfl rfl .int rfl rfl (schC_lay bs (by omega) hw) (ones_cons rfl ones_nil) .here) rfl (fun _ _ _ _ ⟨e, _, _⟩ w s => by subst e; exact s.bare) ?_)
    rintro _ _ _ _ ⟨rfl, _, rfl⟩
    refine aD (by kernel_rfl) ?_
    repeat (first|refine zJ rfl rfl ?_|refine jr rfl ?_|refine jn ?_|refine zM rfl rfl ?_|(refine zC rfl rfl ?_ rfl ?_;omega)|(refine zD rfl rfl ?_ rfl ?_;omega)|(refine zP rfl ?_ rfl ?_;omega)|refine zG rfl rfl rfl rfl ?_|(refine jdq rfl rfl ?_ ?_ ?_;kernel_rfl;kernel_rfl)|refine zB rfl rfl rfl (by repeat constructor) rfl ?_)
    refine J_again (i + 1) hlt (by omega) ⟨⟨rfl, rfl, rfl, rfl, trivial⟩, fun w s => ?_⟩
    exact s
  · obtain rfl : i = 16 := by omega
    repeat (first|refine zJ rfl rfl ?_|refine jr rfl ?_|refine jn ?_|refine zM rfl rfl ?_|(refine zC rfl rfl ?_ rfl ?_;omega)|(refine zD rfl rfl ?_ rfl ?_;omega)|(refine zP rfl ?_ rfl ?_;omega)|refine zG rfl rfl rfl rfl ?_|(refine jdq rfl rfl ?_ ?_ ?_;kernel_rfl;kernel_rfl)|refine zB rfl rfl rfl (by repeat constructor) rfl ?_)
    refine J_loop (ι := Nat) (fun i => 16 ≤ i ∧ i ≤ 64) (fun i => 64 - i) (fun i => [(2, .pointer (some ⟨b2, 0, none⟩)), (3, .pointer (some ⟨b3, 0, none⟩)), (6, .int .i64 i)]) (fun _ => F)
      (fun i => blk b3 121 (schC bs i) :: blk b2 121 z64 :: X) 16 ⟨Nat.le_refl _, by omega⟩ ⟨⟨rfl, rfl, rfl, trivial⟩, fun _ s => s⟩ ?_
    rintro i ⟨h16, hi⟩
    by_cases hlt : i < 64
    · have hw : nextW bs (sch bs i) i = (sch bs i).getD (i - 16) 0 + (rot 7 ((sch bs i).getD (i - 15) 0) ^^^ rot 18 ((sch bs i).getD (i - 15) 0) ^^^ (sch bs i).getD (i - 15) 0 >>> 3) + (sch bs i).getD (i - 7) 0 + (rot 17 ((sch bs i).getD (i - 2) 0) ^^^ rot 19 ((sch bs i).getD (i - 2) 0) ^^^ (sch bs i).getD (i - 2) 0 >>> 10) := by
        unfold nextW; rw [if_neg (by omega)]
      have e16 : (i : Int) - 16 = ((i - 16 : Nat) : Int) := by omega
      have e15 : (i : Int) - 15 = ((i - 15 : Nat) : Int) := by omega
      have e7 : (i : Int) - 7 = ((i - 7 : Nat) : Int) := by omega
      have e2 : (i : Int) - 2 = ((i - 2 : Nat) : Int) := by omega
      repeat (first|refine zJ rfl rfl ?_|refine jr rfl ?_|refine jn ?_|refine zM rfl rfl ?_|(refine zC rfl rfl ?_ rfl ?_;omega)|(refine zD rfl rfl ?_ rfl ?_;omega)|(refine zP rfl ?_ rfl ?_;omega)|refine zG rfl rfl rfl rfl ?_|(refine jdq rfl rfl ?_ ?_ ?_;kernel_rfl;kernel_rfl)|refine zB rfl rfl rfl (by repeat constructor) rfl ?_)
      rw [e15]
      refine oS (ev_indexAddr_arr rfl rfl rfl (by omega)) rfl ?_
      refine oS (ev_load rfl rfl (Rdb.ofB (n := 0) .here (schC_at bs (by omega)))) rfl ?_
      repeat (first|refine zJ rfl rfl ?_|refine jr rfl ?_|refine jn ?_|refine zM rfl rfl ?_|(refine zC rfl rfl ?_ rfl ?_;omega)|(refine zD rfl rfl ?_ rfl ?_;omega)|(refine zP rfl ?_ rfl ?_;omega)|refine zG rfl rfl rfl rfl ?_|(refine jdq rfl rfl ?_ ?_ ?_;kernel_rfl;kernel_rfl)|refine zB rfl rfl rfl (by repeat constructor) rfl ?_)
      rw [e2]
      refine oS (ev_indexAddr_arr rfl rfl rfl (by omega)) rfl ?_
      refine oS (ev_load rfl rfl (Rdb.ofB (n := 0) .here (schC_at bs (by omega)))) rfl ?_
      repeat (first|refine zJ rfl rfl ?_|refine jr rfl ?_|refine jn ?_|refine zM rfl rfl ?_|(refine zC rfl rfl ?_ rfl ?_;omega)|(refine zD rfl rfl ?_ rfl ?_;omega)|(refine zP rfl ?_ rfl ?_;omega)|refine zG rfl rfl rfl rfl ?_|(refine jdq rfl rfl ?_ ?_ ?_;kernel_rfl;kernel_rfl)|refine zB rfl rfl rfl (by repeat constructor) rfl ?_)
      have hp0 : (schC bs i).take (sch bs i).length = w32s (sch bs i) := by rw [sch_len]; exact schC_take bs (Nat.le_refl _)
      have hp1 : (schC bs (i + 1)).take (sch bs i).length = w32s (sch bs i) := by rw [sch_len]; exact schC_take bs (by omega)
      generalize hx : (sch bs i).getD (i - 15) 0 = x at *
      generalize hy : (sch bs i).getD (i - 2) 0 = y at *
      refine ja F [blkP b3 121 fun r => r.take (sch bs i).length = w32s (sch bs i)] ?_ ?_ ?_; kernel_rfl
      · exact fun w s => s.blkP hp0
      refine aT 0 rfl (ev_pv rfl) rfl rfl ?_ ?_ ?_ ?_; kernel_rfl; kernel_rfl; kernel_rfl
      refine aT 1 rfl (ev_pv rfl) rfl rfl ?_ ?_ ?_ ?_; kernel_rfl; kernel_rfl; kernel_rfl
      refine aT 2 rfl (ea rfl rfl (congrArg some e16) (by dsimp only [InK]; omega)) rfl rfl ?_ ?_ ?_ ?_; kernel_rfl; kernel_rfl; kernel_rfl
      refine aT 3 rfl (ev_indexAddr_arr rfl rfl rfl (by omega)) rfl rfl ?_ ?_ ?_ ?_; kernel_rfl; kernel_rfl; kernel_rfl
      refine aT 4 rfl (ev_load rfl rfl (Rdb.ofP fun r hr => words_at' (by rw [sch_len]; omega) hr)) rfl rfl ?_ ?_ ?_ ?_; kernel_rfl; kernel_rfl; kernel_rfl
      (first | refine aT 5 rfl (ev_pv rfl) rfl rfl ?_ ?_ ?_ ?_ | refine aT 5 rfl (eu rfl rfl rfl) rfl rfl ?_ ?_ ?_ ?_ | refine aT 5 rfl (ewc rfl rfl rfl) rfl rfl ?_ ?_ ?_ ?_ | refine aT 5 rfl (eusl rfl rfl (by decide)) rfl rfl ?_ ?_ ?_ ?_ | refine aT 5 rfl (eus rfl rfl (by decide)) rfl rfl ?_ ?_ ?_ ?_ | refine aT 5 rfl (eun rfl) rfl rfl ?_ ?_ ?_ ?_ | (refine aT 5 rfl (ea rfl rfl rfl ?_) rfl rfl ?_ ?_ ?_ ?_; (dsimp only [InK]; first | omega | exact ⟨Int.natCast_nonneg _, by omega⟩))); kernel_rfl; kernel_rfl; kernel_rfl
      (first | refine aT 7 rfl (ev_pv rfl) rfl rfl ?_ ?_ ?_ ?_ | refine aT 7 rfl (eu rfl rfl rfl) rfl rfl ?_ ?_ ?_ ?_ | refine aT 7 rfl (ewc rfl rfl rfl) rfl rfl ?_ ?_ ?_ ?_ | refine aT 7 rfl (eusl rfl rfl (by decide)) rfl rfl ?_ ?_ ?_ ?_ | refine aT 7 rfl (eus rfl rfl (by decide)) rfl rfl ?_ ?_ ?_ ?_ | refine aT 7 rfl (eun rfl) rfl rfl ?_ ?_ ?_ ?_ | (refine aT 7 rfl (ea rfl rfl rfl ?_) rfl rfl ?_ ?_ ?_ ?_; (dsimp only [InK]; first | omega | exact ⟨Int.natCast_nonneg _, by omega⟩))); kernel_rfl; kernel_rfl; kernel_rfl
      (first | refine aT 10 rfl (ev_pv rfl) rfl rfl ?_ ?_ ?_ ?_ | refine aT 10 rfl (eu rfl rfl rfl) rfl rfl ?_ ?_ ?_ ?_ | refine aT 10 rfl (ewc rfl rfl rfl) rfl rfl ?_ ?_ ?_ ?_ | refine aT 10 rfl (eusl rfl rfl (by decide)) rfl rfl ?_ ?_ ?_ ?_ | refine aT 10 rfl (eus rfl rfl (by decide)) rfl rfl ?_ ?_ ?_ ?_ | refine aT 10 rfl (eun rfl) rfl rfl ?_ ?_ ?_ ?_ | (refine aT 10 rfl (ea rfl rfl rfl ?_) rfl rfl ?_ ?_ ?_ ?_; (dsimp only [InK]; first | omega | exact ⟨Int.natCast_nonneg _, by omega⟩))); kernel_rfl; kernel_rfl; kernel_rfl
      (first | refine aT 11 rfl (ev_pv rfl) rfl rfl ?_ ?_ ?_ ?_ | refine aT 11 rfl (eu rfl rfl rfl) rfl rfl ?_ ?_ ?_ ?_ | refine aT 11 rfl (ewc rfl rfl rfl) rfl rfl ?_ ?_ ?_ ?_ | refine aT 11 rfl (eusl rfl rfl (by decide)) rfl rfl ?_ ?_ ?_ ?_ | refine aT 11 rfl (eus rfl rfl (by decide)) rfl rfl ?_ ?_ ?_ ?_ | refine aT 11 rfl (eun rfl) rfl rfl ?_ ?_ ?_ ?_ | (refine aT 11 rfl (ea rfl rfl rfl ?_) rfl rfl ?_ ?_ ?_ ?_; (dsimp only [InK]; first | omega | exact ⟨Int.natCast_nonneg _, by omega⟩))); kernel_rfl; kernel_rfl; kernel_rfl
      (first | refine aT 14 rfl (ev_pv rfl) rfl rfl ?_ ?_ ?_ ?_ | refine aT 14 rfl (eu rfl rfl rfl) rfl rfl ?_ ?_ ?_ ?_ | refine aT 14 rfl (ewc rfl rfl rfl) rfl rfl ?_ ?_ ?_ ?_ | refine aT 14 rfl (eusl rfl rfl (by decide)) rfl rfl ?_ ?_ ?_ ?_ | refine aT 14 rfl (eus rfl rfl (by decide)) rfl rfl ?_ ?_ ?_ ?_ | refine aT 14 rfl (eun rfl) rfl rfl ?_ ?_ ?_ ?_ | (refine aT 14 rfl (ea rfl rfl rfl ?_) rfl rfl ?_ ?_ ?_ ?_; (dsimp only [InK]; first | omega | exact ⟨Int.natCast_nonneg _, by omega⟩))); kernel_rfl; kernel_rfl; kernel_rfl
      refine aT 15 rfl (ea rfl rfl (congrArg some e7) (by dsimp only [InK]; omega)) rfl rfl ?_ ?_ ?_ ?_; kernel_rfl; kernel_rfl; kernel_rfl
      refine aT 16 rfl (ev_indexAddr_arr rfl rfl rfl (by omega)) rfl rfl ?_ ?_ ?_ ?_; kernel_rfl; kernel_rfl; kernel_rfl
      refine aT 17 rfl (ev_load rfl rfl (Rdb.ofP fun r hr => words_at' (by rw [sch_len]; omega) hr)) rfl rfl ?_ ?_ ?_ ?_; kernel_rfl; kernel_rfl; kernel_rfl
      (first | refine aT 19 rfl (ev_pv rfl) rfl rfl ?_ ?_ ?_ ?_ | refine aT 19 rfl (eu rfl rfl rfl) rfl rfl ?_ ?_ ?_ ?_ | refine aT 19 rfl (ewc rfl rfl rfl) rfl rfl ?_ ?_ ?_ ?_ | refine aT 19 rfl (eusl rfl rfl (by decide)) rfl rfl ?_ ?_ ?_ ?_ | refine aT 19 rfl (eus rfl rfl (by decide)) rfl rfl ?_ ?_ ?_ ?_ | refine aT 19 rfl (eun rfl) rfl rfl ?_ ?_ ?_ ?_ | (refine aT 19 rfl (ea rfl rfl rfl ?_) rfl rfl ?_ ?_ ?_ ?_; (dsimp only [InK]; first | omega | exact ⟨Int.natCast_nonneg _, by omega⟩))); kernel_rfl; kernel_rfl; kernel_rfl
      (first | refine aT 21 rfl (ev_pv rfl) rfl rfl ?_ ?_ ?_ ?_ | refine aT 21 rfl (eu rfl rfl rfl) rfl rfl ?_ ?_ ?_ ?_ | refine aT 21 rfl (ewc rfl rfl rfl) rfl rfl ?_ ?_ ?_ ?_ | refine aT 21 rfl (eusl rfl rfl (by decide)) rfl rfl ?_ ?_ ?_ ?_ | refine aT 21 rfl (eus rfl rfl (by decide)) rfl rfl ?_ ?_ ?_ ?_ | refine aT 21 rfl (eun rfl) rfl rfl ?_ ?_ ?_ ?_ | (refine aT 21 rfl (ea rfl rfl rfl ?_) rfl rfl ?_ ?_ ?_ ?_; (dsimp only [InK]; first | omega | exact ⟨Int.natCast_nonneg _, by omega⟩))); kernel_rfl; kernel_rfl; kernel_rfl
      (first | refine aT 24 rfl (ev_pv rfl) rfl rfl ?_ ?_ ?_ ?_ | refine aT 24 rfl (eu rfl rfl rfl) rfl rfl ?_ ?_ ?_ ?_ | refine aT 24 rfl (ewc rfl rfl rfl) rfl rfl ?_ ?_ ?_ ?_ | refine aT 24 rfl (eusl rfl rfl (by decide)) rfl rfl ?_ ?_ ?_ ?_ | refine aT 24 rfl (eus rfl rfl (by decide)) rfl rfl ?_ ?_ ?_ ?_ | refine aT 24 rfl (eun rfl) rfl rfl ?_ ?_ ?_ ?_ | (refine aT 24 rfl (ea rfl rfl rfl ?_) rfl rfl ?_ ?_ ?_ ?_; (dsimp only [InK]; first | omega | exact ⟨Int.natCast_nonneg _, by omega⟩))); kernel_rfl; kernel_rfl; kernel_rfl
      (first | refine aT 25 rfl (ev_pv rfl) rfl rfl ?_ ?_ ?_ ?_ | refine aT 25 rfl (eu rfl rfl rfl) rfl rfl ?_ ?_ ?_ ?_ | refine aT 25 rfl (ewc rfl rfl rfl) rfl rfl ?_ ?_ ?_ ?_ | refine aT 25 rfl (eusl rfl rfl (by decide)) rfl rfl ?_ ?_ ?_ ?_ | refine aT 25 rfl (eus rfl rfl (by decide)) rfl rfl ?_ ?_ ?_ ?_ | refine aT 25 rfl (eun rfl) rfl rfl ?_ ?_ ?_ ?_ | (refine aT 25 rfl (ea rfl rfl rfl ?_) rfl rfl ?_ ?_ ?_ ?_; (dsimp only [InK]; first | omega | exact ⟨Int.natCast_nonneg _, by omega⟩))); kernel_rfl; kernel_rfl; kernel_rfl
      refine aB (i := 6) (by kernel_rfl) (aP rfl (turn_nat x 7 (by decide) F) Try.call73 rfl rfl rfl (fun _ s => s.blkP hp0) ?_)
      refine aB (i := 8) (by kernel_rfl) (aP rfl (turn_nat x 18 (by decide) F) Try.call73 rfl rfl rfl (fun _ s => s.blkP hp0) ?_)
      (first | refine aT 9 rfl (ev_pv rfl) rfl rfl ?_ ?_ ?_ ?_ | refine aT 9 rfl (eu rfl rfl rfl) rfl rfl ?_ ?_ ?_ ?_ | refine aT 9 rfl (ewc rfl rfl rfl) rfl rfl ?_ ?_ ?_ ?_ | refine aT 9 rfl (eusl rfl rfl (by decide)) rfl rfl ?_ ?_ ?_ ?_ | refine aT 9 rfl (eus rfl rfl (by decide)) rfl rfl ?_ ?_ ?_ ?_ | refine aT 9 rfl (eun rfl) rfl rfl ?_ ?_ ?_ ?_ | (refine aT 9 rfl (ea rfl rfl rfl ?_) rfl rfl ?_ ?_ ?_ ?_; (dsimp only [InK]; first | omega | exact ⟨Int.natCast_nonneg _, by omega⟩))); kernel_rfl; kernel_rfl; kernel_rfl
      (first | refine aT 12 rfl (ev_pv rfl) rfl rfl ?_ ?_ ?_ ?_ | refine aT 12 rfl (eu rfl rfl rfl) rfl rfl ?_ ?_ ?_ ?_ | refine aT 12 rfl (ewc rfl rfl rfl) rfl rfl ?_ ?_ ?_ ?_ | refine aT 12 rfl (eusl rfl rfl (by decide)) rfl rfl ?_ ?_ ?_ ?_ | refine aT 12 rfl (eus rfl rfl (by decide)) rfl rfl ?_ ?_ ?_ ?_ | refine aT 12 rfl (eun rfl) rfl rfl ?_ ?_ ?_ ?_ | (refine aT 12 rfl (ea rfl rfl rfl ?_) rfl rfl ?_ ?_ ?_ ?_; (dsimp only [InK]; first | omega | exact ⟨Int.natCast_nonneg _, by omega⟩))); kernel_rfl; kernel_rfl; kernel_rfl
      (first | refine aT 13 rfl (ev_pv rfl) rfl rfl ?_ ?_ ?_ ?_ | refine aT 13 rfl (eu rfl rfl rfl) rfl rfl ?_ ?_ ?_ ?_ | refine aT 13 rfl (ewc rfl rfl rfl) rfl rfl ?_ ?_ ?_ ?_ | refine aT 13 rfl (eusl rfl rfl (by decide)) rfl rfl ?_ ?_ ?_ ?_ | refine aT 13 rfl (eus rfl rfl (by decide)) rfl rfl ?_ ?_ ?_ ?_ | refine aT 13 rfl (eun rfl) rfl rfl ?_ ?_ ?_ ?_ | (refine aT 13 rfl (ea rfl rfl rfl ?_) rfl rfl ?_ ?_ ?_ ?_; (dsimp only [InK]; first | omega | exact ⟨Int.natCast_nonneg _, by omega⟩))); kernel_rfl; kernel_rfl; kernel_rfl
      (first | refine aT 18 rfl (ev_pv rfl) rfl rfl ?_ ?_ ?_ ?_ | refine aT 18 rfl (eu rfl rfl rfl) rfl rfl ?_ ?_ ?_ ?_ | refine aT 18 rfl (ewc rfl rfl rfl) rfl rfl ?_ ?_ ?_ ?_ | refine aT 18 rfl (eusl rfl rfl (by decide)) rfl rfl ?_ ?_ ?_ ?_ | refine aT 18 rfl (eus rfl rfl (by decide)) rfl rfl ?_ ?_ ?_ ?_ | refine aT 18 rfl (eun rfl) rfl rfl ?_ ?_ ?_ ?_ | (refine aT 18 rfl (ea rfl rfl rfl ?_) rfl rfl ?_ ?_ ?_ ?_; (dsimp only [InK]; first | omega | exact ⟨Int.natCast_nonneg _, by omega⟩))); kernel_rfl; kernel_rfl; kernel_rfl
      refine aB (i := 20) (by kernel_rfl) (aP rfl (turn_nat y 17 (by decide) F) Try.call73 rfl rfl rfl (fun _ s => s.blkP hp0) ?_)
      refine aB (i := 22) (by kernel_rfl) (aP rfl (turn_nat y 19 (by decide) F) Try.call73 rfl rfl rfl (fun _ s => s.blkP hp0) ?_)
      (first | refine aT 23 rfl (ev_pv rfl) rfl rfl ?_ ?_ ?_ ?_ | refine aT 23 rfl (eu rfl rfl rfl) rfl rfl ?_ ?_ ?_ ?_ | refine aT 23 rfl (ewc rfl rfl rfl) rfl rfl ?_ ?_ ?_ ?_ | refine aT 23 rfl (eusl rfl rfl (by decide)) rfl rfl ?_ ?_ ?_ ?_ | refine aT 23 rfl (eus rfl rfl (by decide)) rfl rfl ?_ ?_ ?_ ?_ | refine aT 23 rfl (eun rfl) rfl rfl ?_ ?_ ?_ ?_ | (refine aT 23 rfl (ea rfl rfl rfl ?_) rfl rfl ?_ ?_ ?_ ?_; (dsimp only [InK]; first | omega | exact ⟨Int.natCast_nonneg _, by omega⟩))); kernel_rfl; kernel_rfl; kernel_rfl
      (first | refine aT 26 rfl (ev_pv rfl) rfl rfl ?_ ?_ ?_ ?_ | refine aT 26 rfl (eu rfl rfl rfl) rfl rfl ?_ ?_ ?_ ?_ | refine aT 26 rfl (ewc rfl rfl rfl) rfl rfl ?_ ?_ ?_ ?_ | refine aT 26 rfl (eusl rfl rfl (by decide)) rfl rfl ?_ ?_ ?_ ?_ | refine aT 26 rfl (eus rfl rfl (by decide)) rfl rfl ?_ ?_ ?_ ?_ | refine aT 26 rfl (eun rfl) rfl rfl ?_ ?_ ?_ ?_ | (refine aT 26 rfl (ea rfl rfl rfl ?_) rfl rfl ?_ ?_ ?_ ?_; (dsimp only [InK]; first | omega | exact ⟨Int.natCast_nonneg _, by omega⟩))); kernel_rfl; kernel_rfl; kernel_rfl
      (first | refine aT 27 rfl (ev_pv rfl) rfl rfl ?_ ?_ ?_ ?_ | refine aT 27 rfl (eu rfl rfl rfl) rfl rfl ?_ ?_ ?_ ?_ | refine aT 27 rfl (ewc rfl rfl rfl) rfl rfl ?_ ?_ ?_ ?_ | refine aT 27 rfl (eusl rfl rfl (by decide)) rfl rfl ?_ ?_ ?_ ?_ | refine aT 27 rfl (eus rfl rfl (by decide)) rfl rfl ?_ ?_ ?_ ?_ | refine aT 27 rfl (eun rfl) rfl rfl ?_ ?_ ?_ ?_ | (refine aT 27 rfl (ea rfl rfl rfl ?_) rfl rfl ?_ ?_ ?_ ?_; (dsimp only [InK]; first | omega | exact ⟨Int.natCast_nonneg _, by omega⟩))); kernel_rfl; kernel_rfl; kernel_rfl
      refine aT 28 rfl (ev_indexAddr_arr rfl rfl rfl (by omega)) rfl rfl ?_ ?_ ?_ ?_; kernel_rfl; kernel_rfl; kernel_rfl
      refine aB (i := 29) (by kernel_rfl) (aN rfl (ev_store (b := b3) (off := 0 + i * 1) rfl rfl .int rfl rfl (schC_lay bs (by omega) hw) (ones_cons rfl ones_nil) .here) rfl (fun _ _ _ _ ⟨e, _, e2⟩ w s => by subst e; subst e2; exact s.blkP hp1) ?_)
      rintro _ _ _ _ ⟨rfl, _, rfl⟩
      refine aD (by kernel_rfl) ?_
      repeat (first|refine zJ rfl rfl ?_|refine jr rfl ?_|refine jn ?_|refine zM rfl rfl ?_|(refine zC rfl rfl ?_ rfl ?_;omega)|(refine zD rfl rfl ?_ rfl ?_;omega)|(refine zP rfl ?_ rfl ?_;omega)|refine zG rfl rfl rfl rfl ?_|(refine jdq rfl rfl ?_ ?_ ?_;kernel_rfl;kernel_rfl)|refine zB rfl rfl rfl (by repeat constructor) rfl ?_)
      refine J_again (i + 1) ⟨by omega, hlt⟩ (by omega) ⟨⟨rfl, rfl, rfl, trivial⟩, fun w s => s⟩
    · obtain rfl : i = 64 := by omega
      have e : schC bs 64 = w32s (sch bs 64) := by unfold schC; simp
      rw [e]
      have hl64 : (w32s (sch bs 64)).length = 64 := by rw [w32s_len, sch_len]
      repeat (first|refine zJ rfl rfl ?_|refine jr rfl ?_|refine jn ?_|refine zM rfl rfl ?_|(refine zC rfl rfl ?_ rfl ?_;omega)|(refine zD rfl rfl ?_ rfl ?_;omega)|(refine zP rfl ?_ rfl ?_;omega)|refine zG rfl rfl rfl rfl ?_|(refine jdq rfl rfl ?_ ?_ ?_;kernel_rfl;kernel_rfl)|refine zB rfl rfl rfl (by repeat constructor) rfl ?_)
      refine oS (ev_load_agg (cs := w32s (sch bs 64)) rfl rfl (Rdb.ofB (n := 0) .here (by rw [List.drop_zero, List.take_length])) hl64) rfl ?_
      refine oN (ev_store (b := b2) rfl rfl .agg rfl hl64 (lay_all (zs := z64) hl64) (w32s_ones _) (.there .here)) rfl ?_
      rintro _ _ _ _ ⟨rfl, _, rfl⟩
      repeat (first|refine zJ rfl rfl ?_|refine jr rfl ?_|refine jn ?_|refine zM rfl rfl ?_|(refine zC rfl rfl ?_ rfl ?_;omega)|(refine zD rfl rfl ?_ rfl ?_;omega)|(refine zP rfl ?_ rfl ?_;omega)|refine zG rfl rfl rfl rfl ?_|(refine jdq rfl rfl ?_ ?_ ?_;kernel_rfl;kernel_rfl)|refine zB rfl rfl rfl (by repeat constructor) rfl ?_)
      exact J_retv (vs := [.agg (w32s (sch bs 64)).toArray]) rfl (.agg rfl rfl (Rdb.ofB (n := 0) (.there .here) (by rw [List.drop_zero, List.take_length])) hl64 .nil) [] (fun w s => s.drop.drop) (PH.ler _) ⟨rfl, rfl⟩
end Go.Proofs.Ytohlmhoacjodjaa
namespace Go.Proofs.Ytohlmhoacjodjaa
open Go.RowKit
set_option maxRecDepth 100000
structure S8 where
  (a b c d e f g h : W)
def S8.l (s : S8) : List W := [s.a, s.b, s.c, s.d, s.e, s.f, s.g, s.h]
def T1 (s : S8) (k w : W) : W := s.h + mix3 s.e 6 11 25 + (s.g ^^^ s.e &&& (s.f ^^^ s.g)) + k + w
def T2 (s : S8) : W := mix3 s.a 2 13 22 + (s.a &&& s.b ^^^ s.a &&& s.c ^^^ s.b &&& s.c)
def rnd' (s : S8) (t1 t2 : W) : S8 := ⟨t1 + t2, s.a, s.b, s.c, s.d + t1, s.e, s.f, s.g⟩
def rnd (s : S8) (k w : W) : S8 := rnd' s (T1 s k w) (T2 s)
def rnds (ks ws : List W) (s : S8) : Nat → S8
  | 0 => s
  | i + 1 => rnd (rnds ks ws s i) (ks.getD i 0) (ws.getD i 0)
def S8.add (s t : S8) : S8 := ⟨s.a + t.a, s.b + t.b, s.c + t.c, s.d + t.d, s.e + t.e, s.f + t.f, s.g + t.g, s.h + t.h⟩
/-- A block of 64 bytes, taken in. -/
def comp (s : S8) (b : List UInt8) : S8 := s.add (rnds kW (sch b 64) s 64)
theorem lay_w {L : List W} {v : W} {i : Nat} (h : i < L.length) : Lay (0 + i * 1) [w32 v] (w32s L) (w32s (L.set i v)) := by
  rw [Nat.zero_add, Nat.mul_one]
  have : w32s (L.set i v) = (w32s L).set i (w32 v) := by simp [w32s, List.map_set]
  rw [this]
  exact lay_set _ (by rw [w32s_len]; exact h)
theorem lay_8 (L : List W) (h : L.length = 8) : Lay 0 (w32s L) (List.replicate 8 (.int .u32 0)) (w32s L) := lay_all (by rw [w32s_len, h]; rfl)
theorem lay4 {a b c d a' b' c' d' : W} : Lay 0 (w32s [a, b, c, d]) (w32s [a', b', c', d']) (w32s [a, b, c, d]) := .put (.put (.put (.put .nil)))
/-- The sums, as far as they are laid. -/
def mixL (s r : S8) (i : Nat) : List W := [if 0 < i then s.a + r.a else s.a, if 1 < i then s.b + r.b else s.b, if 2 < i then s.c + r.c else s.c, if 3 < i then s.d + r.d else s.d, if 0 < i then s.e + r.e else s.e, if 1 < i then s.f + r.f else s.f, if 2 < i then s.g + r.g else s.g, if 3 < i then s.h + r.h else s.h]
theorem cells_word {F : PH} {b i : Nat} {l : List W} (h : Cells F b 0 (w32s l)) (hi : i < l.length) : Cells F b (0 + i * 1) [w32 (l.getD i 0)] := by
  intro j u hj
  have hj0 : j = 0 := by
    have := (List.getElem?_eq_some_iff.1 hj).1
    simp at this; omega
  subst hj0
  have hu : u = w32 (l.getD i 0) := by simpa using hj.symm
  subst hu
  have := h i (w32 (l.getD i 0)) (by simp [w32s, hi, List.getD_eq_getElem?_getD])
  rwa [show 0 + i * 1 + 0 = 0 + i from by omega]
def z4 : List Value := List.replicate 4 (.int .u32 0)
set_option maxHeartbeats 16000000 in
theorem block_spec (s : S8) (a : Option Addr) (c : Nat) (bs : List UInt8) (F : PH) (h : Byt F (.slice a bs.length c) bs) (hc : bs.length ≤ c) (h64 : 64 ≤ bs.length) (hl : bs.length ≤ 1099511627776) :
    Pure Try.prog 69 [.agg (w32s s.l).toArray, .slice a bs.length c] F (.agg (w32s (comp s bs).l).toArray) := by
  refine Spec.of2 Try.func69 rfl rfl fun X w0 => ?_
  refine jc rfl rfl ?_
  refine jr rfl ?_
  refine oE (ev_box rfl .agg) rfl ?_; rintro _ _ _ _ ⟨rfl, b2, rfl, rfl⟩
  refine oE (ev_alloc (cs := List.replicate 8 (.int .u32 0)) rfl) rfl ?_
  rintro _ _ _ _ ⟨rfl, b4, rfl, rfl⟩
  repeat (first|refine zJ rfl rfl ?_|refine jr rfl ?_|refine jn ?_|refine zM rfl rfl ?_|(refine zC rfl rfl ?_ rfl ?_;omega)|(refine zD rfl rfl ?_ rfl ?_;omega)|(refine zP rfl ?_ rfl ?_;omega)|refine zG rfl rfl rfl rfl ?_|(refine jdq rfl rfl ?_ ?_ ?_;kernel_rfl;kernel_rfl)|refine zB rfl rfl rfl (by repeat constructor) rfl ?_)
  refine oP (rounds_spec F) Try.call70 rfl rfl ?_
  repeat (first|refine zJ rfl rfl ?_|refine jr rfl ?_|refine jn ?_|refine zM rfl rfl ?_|(refine zC rfl rfl ?_ rfl ?_;omega)|(refine zD rfl rfl ?_ rfl ?_;omega)|(refine zP rfl ?_ rfl ?_;omega)|refine zG rfl rfl rfl rfl ?_|(refine jdq rfl rfl ?_ ?_ ?_;kernel_rfl;kernel_rfl)|refine zB rfl rfl rfl (by repeat constructor) rfl ?_)
  refine oP (schedule_spec a c bs F h hc h64 hl) Try.call71 rfl rfl ?_
  have hk64 : (w32s kW).length = 64 := rfl
  have hs64 : (w32s (sch bs 64)).length = 64 := by rw [w32s_len, sch_len]
  generalize hws : sch bs 64 = ws at *
  refine oE (ev_alloc (cs := z64) rfl) rfl ?_
  rintro _ _ _ _ ⟨rfl, b5, rfl, rfl⟩
  refine oE (ev_alloc (cs := z64) rfl) rfl ?_
  rintro _ _ _ _ ⟨rfl, b6, rfl, rfl⟩
  refine oN (ev_store (b := b5) rfl rfl .agg rfl hk64 (lay_all (zs := z64) hk64) (w32s_ones _) (.there .here)) rfl ?_
  rintro _ _ _ _ ⟨rfl, _, rfl⟩
  refine oN (ev_store (b := b6) rfl rfl .agg rfl hs64 (lay_all (zs := z64) hs64) (w32s_ones _) .here) rfl ?_
  rintro _ _ _ _ ⟨rfl, _, rfl⟩
  refine oPersist fun h6 hA6 hd6 => ?_
  have hc6 := blk_cells hA6 hd6
  have hle6 := PH.le_l F h6
  generalize F.un h6 = F1 at *
  refine oPersist fun h5 hA5 hd5 => ?_
  have hc5 := blk_cells hA5 hd5
  have hle5 := PH.le_l F1 h5
  generalize F1.un h5 = F2 at *
  replace hc6 := hc6.mono hle5
  refine jn ?_
  refine jc rfl rfl ?_
  refine J_pick (.there .here) ?_
  refine J_join (ι := Nat × Nat) [_] (fun _ => True) (fun i => [(2, .pointer (some ⟨b2, 0, none⟩)), (4, .pointer (some ⟨b4, 0, none⟩)), (5, .pointer (some ⟨b5, 0, none⟩)), (6, .pointer (some ⟨b6, 0, none⟩)), (7, .pointer (some ⟨i.1, 0, none⟩)), (8, .pointer (some ⟨i.2, 0, none⟩))]) (fun _ => F2)
    (fun i => blk i.1 124 (w32s [s.a, s.b, s.c, s.d]) :: blk i.2 124 (w32s [s.e, s.f, s.g, s.h]) :: blk b2 116 (w32s s.l) :: blk b4 116 (List.replicate 8 (.int .u32 0)) :: X) ?_ ?_
  · refine ja F2 [blk b2 116 (w32s s.l)] ?_ ?_ ?_; kernel_rfl
    · exact fun w s => s.head
    refine aT 0 rfl (ev_slice_arr_hi (hi := 4) rfl rfl rfl (by decide)) rfl rfl ?_ ?_ ?_ ?_; kernel_rfl; kernel_rfl; kernel_rfl
    refine aT 1 rfl (ev_s2a rfl rfl (by decide)) rfl rfl ?_ ?_ ?_ ?_; kernel_rfl; kernel_rfl; kernel_rfl
    refine aT 2 rfl (ev_load_agg (cs := w32s [s.a, s.b, s.c, s.d]) rfl rfl (Rdb.ofB (n := 0) .here rfl) rfl) rfl rfl ?_ ?_ ?_ ?_; kernel_rfl; kernel_rfl; kernel_rfl
    refine aT 3 rfl (ev_slice_arr_lo (lo := 4) rfl rfl rfl (by decide)) rfl rfl ?_ ?_ ?_ ?_; kernel_rfl; kernel_rfl; kernel_rfl
    refine aT 4 rfl (ev_s2a rfl rfl (by decide)) rfl rfl ?_ ?_ ?_ ?_; kernel_rfl; kernel_rfl; kernel_rfl
    refine aT 5 rfl (ev_load_agg (cs := w32s [s.e, s.f, s.g, s.h]) rfl rfl (Rdb.ofB (n := 0) .here rfl) rfl) rfl rfl ?_ ?_ ?_ ?_; kernel_rfl; kernel_rfl; kernel_rfl
    refine aB2 (i := 6) (i' := 7) (by kernel_rfl) ?_ ?_
    · refine aE rfl (ev_alloc (cs := z4) rfl) rfl rfl (fun _ _ _ _ ⟨e, _, _, e2⟩ w s => by subst e; subst e2; exact (s.pick (.there .here)).head) ?_
      rintro _ _ _ _ ⟨rfl, b7, rfl, rfl⟩
      refine aB (i := 7) (by kernel_rfl) (aE rfl (ev_alloc (cs := z4) rfl) rfl rfl (fun _ _ _ _ ⟨e, _, _, e2⟩ w s => by subst e; subst e2; exact (s.pick (.there (.there .here))).head) ?_)
      rintro _ _ _ _ ⟨rfl, b8, rfl, rfl⟩
      refine aB (i := 8) (by kernel_rfl) (aN rfl (ev_store (b := b7) rfl rfl .agg rfl rfl (lay_all (zs := z4) rfl) (w32s_ones [s.a, s.b, s.c, s.d]) (.there .here)) rfl (fun _ _ _ _ ⟨e, _, e2⟩ w s => by subst e; subst e2; exact (s.pick (.there (.there .here))).head) ?_)
      rintro _ _ _ _ ⟨rfl, _, rfl⟩
      refine aB (i := 9) (by kernel_rfl) (aN rfl (ev_store (b := b8) rfl rfl .agg rfl rfl (lay_all (zs := z4) rfl) (w32s_ones [s.e, s.f, s.g, s.h]) .here) rfl (fun _ _ _ _ ⟨e, _, e2⟩ w s => by subst e; subst e2; exact (s.pick (.there (.there .here))).head) ?_)
      rintro _ _ _ _ ⟨rfl, _, rfl⟩
      refine aD (by kernel_rfl) ?_
      refine J_joined (b7, b8) trivial ⟨⟨rfl, rfl, rfl, rfl, rfl, rfl, trivial⟩, fun w s => ?_⟩
      exact s.pick (.there .here)
    · refine aE rfl (ev_alloc (cs := z4) rfl) rfl rfl (fun _ _ _ _ ⟨e, _, _, e2⟩ w s => by subst e; subst e2; exact (s.pick (.there .here)).head) ?_
      rintro _ _ _ _ ⟨rfl, b8, rfl, rfl⟩
      refine aB (i := 6) (by kernel_rfl) (aE rfl (ev_alloc (cs := z4) rfl) rfl rfl (fun _ _ _ _ ⟨e, _, _, e2⟩ w s => by subst e; subst e2; exact (s.pick (.there (.there .here))).head) ?_)
      rintro _ _ _ _ ⟨rfl, b7, rfl, rfl⟩
      refine aB (i := 8) (by kernel_rfl) (aN rfl (ev_store (b := b7) rfl rfl .agg rfl rfl (lay_all (zs := z4) rfl) (w32s_ones [s.a, s.b, s.c, s.d]) .here) rfl (fun _ _ _ _ ⟨e, _, e2⟩ w s => by subst e; subst e2; exact (s.pick (.there (.there .here))).head) ?_)
      rintro _ _ _ _ ⟨rfl, _, rfl⟩
      refine aB (i := 9) (by kernel_rfl) (aN rfl (ev_store (b := b8) rfl rfl .agg rfl rfl (lay_all (zs := z4) rfl) (w32s_ones [s.e, s.f, s.g, s.h]) (.there .here)) rfl (fun _ _ _ _ ⟨e, _, e2⟩ w s => by subst e; subst e2; exact (s.pick (.there (.there .here))).head) ?_)
      rintro _ _ _ _ ⟨rfl, _, rfl⟩
      refine aD (by kernel_rfl) ?_
      refine J_joined (b7, b8) trivial ⟨⟨rfl, rfl, rfl, rfl, rfl, rfl, trivial⟩, fun w s => ?_⟩
      exact s
  rintro ⟨b7, b8⟩ _
  dsimp only
  repeat (first|refine zJ rfl rfl ?_|refine jr rfl ?_|refine jn ?_|refine zM rfl rfl ?_|(refine zC rfl rfl ?_ rfl ?_;omega)|(refine zD rfl rfl ?_ rfl ?_;omega)|(refine zP rfl ?_ rfl ?_;omega)|refine zG rfl rfl rfl rfl ?_|(refine jdq rfl rfl ?_ ?_ ?_;kernel_rfl;kernel_rfl)|refine zB rfl rfl rfl (by repeat constructor) rfl ?_)
  refine J_loop (ι := Nat) (fun i => i ≤ 64) (fun i => 64 - i) (fun i => [(2, .pointer (some ⟨b2, 0, none⟩)), (4, .pointer (some ⟨b4, 0, none⟩)), (5, .pointer (some ⟨b5, 0, none⟩)), (6, .pointer (some ⟨b6, 0, none⟩)), (7, .pointer (some ⟨b7, 0, none⟩)), (8, .pointer (some ⟨b8, 0, none⟩)), (22, .int .i64 i)]) (fun _ => F2)
    (fun i => blk b7 124 (w32s [(rnds kW ws s i).a, (rnds kW ws s i).b, (rnds kW ws s i).c, (rnds kW ws s i).d]) :: blk b8 124 (w32s [(rnds kW ws s i).e, (rnds kW ws s i).f, (rnds kW ws s i).g, (rnds kW ws s i).h]) :: blk b2 116 (w32s s.l) :: blk b4 116 (List.replicate 8 (.int .u32 0)) :: X)
    0 (Nat.zero_le _) ⟨⟨rfl, rfl, rfl, rfl, rfl, rfl, rfl, trivial⟩, fun _ s => s⟩ ?_
  intro i hi
  by_cases hlt : i < 64
  · have hr : rnds kW ws s (i + 1) = rnd' (rnds kW ws s i) (T1 (rnds kW ws s i) (kW.getD i 0) (ws.getD i 0)) (T2 (rnds kW ws s i)) := rfl
    have ck := cells_word hc5 (i := i) (by rw [kW_len]; exact hlt)
    have cw := cells_word hc6 (i := i) (by rw [w32s_len] at hs64; omega)
    generalize rnds kW ws s i = r at *
    generalize kW.getD i 0 = ki at *
    generalize ws.getD i 0 = wi at *
    repeat (first | refine jc rfl rfl ?_ | refine jr rfl ?_ | refine jn ?_ | refine oM rfl rfl ?_ | refine oS (eu rfl rfl rfl) rfl ?_ | refine oS (eus rfl rfl (by decide)) rfl ?_ | refine oS (eun rfl) rfl ?_ | refine oS (ev_indexAddr_arr (i := 0) rfl rfl rfl (by decide)) rfl ?_ | refine oS (ev_indexAddr_arr (i := 1) rfl rfl rfl (by decide)) rfl ?_ | refine oS (ev_indexAddr_arr (i := 2) rfl rfl rfl (by decide)) rfl ?_ | refine oS (ev_indexAddr_arr (i := 3) rfl rfl rfl (by decide)) rfl ?_ | refine zJ rfl rfl ?_|refine jr rfl ?_|refine jn ?_|refine zM rfl rfl ?_|(refine zC rfl rfl ?_ rfl ?_;omega)|(refine zD rfl rfl ?_ rfl ?_;omega)|(refine zP rfl ?_ rfl ?_;omega)|refine zG rfl rfl rfl rfl ?_|(refine jdq rfl rfl ?_ ?_ ?_;kernel_rfl;kernel_rfl)|refine zB rfl rfl rfl (by repeat constructor) rfl ?_ | refine oS (ev_load rfl rfl (Rdb.ofB (n := 0) .here rfl)) rfl ?_ | refine oS (ev_load rfl rfl (Rdb.ofB (n := 0) (.there .here) rfl)) rfl ?_ | refine oS (ev_load rfl rfl (Rdb.ofB (n := 0) (.there (.there .here)) rfl)) rfl ?_)
    refine jd rfl ?_ ?_ ?_; kernel_rfl; kernel_rfl
    repeat (first | refine jc rfl rfl ?_ | refine jr rfl ?_ | refine jn ?_ | refine oM rfl rfl ?_ | refine oS (eu rfl rfl rfl) rfl ?_ | refine oS (eus rfl rfl (by decide)) rfl ?_ | refine oS (eun rfl) rfl ?_ | refine oS (ev_indexAddr_arr (i := 0) rfl rfl rfl (by decide)) rfl ?_ | refine oS (ev_indexAddr_arr (i := 1) rfl rfl rfl (by decide)) rfl ?_ | refine oS (ev_indexAddr_arr (i := 2) rfl rfl rfl (by decide)) rfl ?_ | refine oS (ev_indexAddr_arr (i := 3) rfl rfl rfl (by decide)) rfl ?_ | refine zJ rfl rfl ?_|refine jr rfl ?_|refine jn ?_|refine zM rfl rfl ?_|(refine zC rfl rfl ?_ rfl ?_;omega)|(refine zD rfl rfl ?_ rfl ?_;omega)|(refine zP rfl ?_ rfl ?_;omega)|refine zG rfl rfl rfl rfl ?_|(refine jdq rfl rfl ?_ ?_ ?_;kernel_rfl;kernel_rfl)|refine zB rfl rfl rfl (by repeat constructor) rfl ?_ | refine oS (ev_load rfl rfl (Rdb.ofB (n := 0) .here rfl)) rfl ?_ | refine oS (ev_load rfl rfl (Rdb.ofB (n := 0) (.there .here) rfl)) rfl ?_ | refine oS (ev_load rfl rfl (Rdb.ofB (n := 0) (.there (.there .here)) rfl)) rfl ?_)
    refine oP (mix_spec r.e 6 11 25 (by decide) (by decide) (by decide) F2) Try.call72 rfl rfl ?_
    repeat (first | refine jc rfl rfl ?_ | refine jr rfl ?_ | refine jn ?_ | refine oM rfl rfl ?_ | refine oS (eu rfl rfl rfl) rfl ?_ | refine oS (eus rfl rfl (by decide)) rfl ?_ | refine oS (eun rfl) rfl ?_ | refine oS (ev_indexAddr_arr (i := 0) rfl rfl rfl (by decide)) rfl ?_ | refine oS (ev_indexAddr_arr (i := 1) rfl rfl rfl (by decide)) rfl ?_ | refine oS (ev_indexAddr_arr (i := 2) rfl rfl rfl (by decide)) rfl ?_ | refine oS (ev_indexAddr_arr (i := 3) rfl rfl rfl (by decide)) rfl ?_ | refine zJ rfl rfl ?_|refine jr rfl ?_|refine jn ?_|refine zM rfl rfl ?_|(refine zC rfl rfl ?_ rfl ?_;omega)|(refine zD rfl rfl ?_ rfl ?_;omega)|(refine zP rfl ?_ rfl ?_;omega)|refine zG rfl rfl rfl rfl ?_|(refine jdq rfl rfl ?_ ?_ ?_;kernel_rfl;kernel_rfl)|refine zB rfl rfl rfl (by repeat constructor) rfl ?_ | refine oS (ev_load rfl rfl (Rdb.ofB (n := 0) .here rfl)) rfl ?_ | refine oS (ev_load rfl rfl (Rdb.ofB (n := 0) (.there .here) rfl)) rfl ?_ | refine oS (ev_load rfl rfl (Rdb.ofB (n := 0) (.there (.there .here)) rfl)) rfl ?_)
    refine oS (ev_indexAddr_arr rfl rfl rfl hlt) rfl ?_
    refine oS (ev_load rfl rfl (Rdb.ofF ck)) rfl ?_
    repeat (first | refine jc rfl rfl ?_ | refine jr rfl ?_ | refine jn ?_ | refine oM rfl rfl ?_ | refine oS (eu rfl rfl rfl) rfl ?_ | refine oS (eus rfl rfl (by decide)) rfl ?_ | refine oS (eun rfl) rfl ?_ | refine oS (ev_indexAddr_arr (i := 0) rfl rfl rfl (by decide)) rfl ?_ | refine oS (ev_indexAddr_arr (i := 1) rfl rfl rfl (by decide)) rfl ?_ | refine oS (ev_indexAddr_arr (i := 2) rfl rfl rfl (by decide)) rfl ?_ | refine oS (ev_indexAddr_arr (i := 3) rfl rfl rfl (by decide)) rfl ?_ | refine zJ rfl rfl ?_|refine jr rfl ?_|refine jn ?_|refine zM rfl rfl ?_|(refine zC rfl rfl ?_ rfl ?_;omega)|(refine zD rfl rfl ?_ rfl ?_;omega)|(refine zP rfl ?_ rfl ?_;omega)|refine zG rfl rfl rfl rfl ?_|(refine jdq rfl rfl ?_ ?_ ?_;kernel_rfl;kernel_rfl)|refine zB rfl rfl rfl (by repeat constructor) rfl ?_ | refine oS (ev_load rfl rfl (Rdb.ofB (n := 0) .here rfl)) rfl ?_ | refine oS (ev_load rfl rfl (Rdb.ofB (n := 0) (.there .here) rfl)) rfl ?_ | refine oS (ev_load rfl rfl (Rdb.ofB (n := 0) (.there (.there .here)) rfl)) rfl ?_)
    refine oS (ev_indexAddr_arr rfl rfl rfl hlt) rfl ?_
    refine oS (ev_load rfl rfl (Rdb.ofF cw)) rfl ?_
    refine oS (eu rfl rfl rfl) rfl ?_
    refine oM rfl rfl ?_
    rw [show r.h + mix3 r.e 6 11 25 + (r.g ^^^ r.e &&& (r.f ^^^ r.g)) + ki + wi = T1 r ki wi from rfl]
    generalize T1 r ki wi = t1 at *
    repeat (first | refine jc rfl rfl ?_ | refine jr rfl ?_ | refine jn ?_ | refine oM rfl rfl ?_ | refine oS (eu rfl rfl rfl) rfl ?_ | refine oS (eus rfl rfl (by decide)) rfl ?_ | refine oS (eun rfl) rfl ?_ | refine oS (ev_indexAddr_arr (i := 0) rfl rfl rfl (by decide)) rfl ?_ | refine oS (ev_indexAddr_arr (i := 1) rfl rfl rfl (by decide)) rfl ?_ | refine oS (ev_indexAddr_arr (i := 2) rfl rfl rfl (by decide)) rfl ?_ | refine oS (ev_indexAddr_arr (i := 3) rfl rfl rfl (by decide)) rfl ?_ | refine zJ rfl rfl ?_|refine jr rfl ?_|refine jn ?_|refine zM rfl rfl ?_|(refine zC rfl rfl ?_ rfl ?_;omega)|(refine zD rfl rfl ?_ rfl ?_;omega)|(refine zP rfl ?_ rfl ?_;omega)|refine zG rfl rfl rfl rfl ?_|(refine jdq rfl rfl ?_ ?_ ?_;kernel_rfl;kernel_rfl)|refine zB rfl rfl rfl (by repeat constructor) rfl ?_ | refine oS (ev_load rfl rfl (Rdb.ofB (n := 0) .here rfl)) rfl ?_ | refine oS (ev_load rfl rfl (Rdb.ofB (n := 0) (.there .here) rfl)) rfl ?_ | refine oS (ev_load rfl rfl (Rdb.ofB (n := 0) (.there (.there .here)) rfl)) rfl ?_)
    refine jd rfl ?_ ?_ ?_; kernel_rfl; kernel_rfl
    repeat (first | refine jc rfl rfl ?_ | refine jr rfl ?_ | refine jn ?_ | refine oM rfl rfl ?_ | refine oS (eu rfl rfl rfl) rfl ?_ | refine oS (eus rfl rfl (by decide)) rfl ?_ | refine oS (eun rfl) rfl ?_ | refine oS (ev_indexAddr_arr (i := 0) rfl rfl rfl (by decide)) rfl ?_ | refine oS (ev_indexAddr_arr (i := 1) rfl rfl rfl (by decide)) rfl ?_ | refine oS (ev_indexAddr_arr (i := 2) rfl rfl rfl (by decide)) rfl ?_ | refine oS (ev_indexAddr_arr (i := 3) rfl rfl rfl (by decide)) rfl ?_ | refine zJ rfl rfl ?_|refine jr rfl ?_|refine jn ?_|refine zM rfl rfl ?_|(refine zC rfl rfl ?_ rfl ?_;omega)|(refine zD rfl rfl ?_ rfl ?_;omega)|(refine zP rfl ?_ rfl ?_;omega)|refine zG rfl rfl rfl rfl ?_|(refine jdq rfl rfl ?_ ?_ ?_;kernel_rfl;kernel_rfl)|refine zB rfl rfl rfl (by repeat constructor) rfl ?_ | refine oS (ev_load rfl rfl (Rdb.ofB (n := 0) .here rfl)) rfl ?_ | refine oS (ev_load rfl rfl (Rdb.ofB (n := 0) (.there .here) rfl)) rfl ?_ | refine oS (ev_load rfl rfl (Rdb.ofB (n := 0) (.there (.there .here)) rfl)) rfl ?_)
    refine oP (mix_spec r.a 2 13 22 (by decide) (by decide) (by decide) F2) Try.call72 rfl rfl ?_
    repeat (first | refine jc rfl rfl ?_ | refine jr rfl ?_ | refine jn ?_ | refine oM rfl rfl ?_ | refine oS (eu rfl rfl rfl) rfl ?_ | refine oS (eus rfl rfl (by decide)) rfl ?_ | refine oS (eun rfl) rfl ?_ | refine oS (ev_indexAddr_arr (i := 0) rfl rfl rfl (by decide)) rfl ?_ | refine oS (ev_indexAddr_arr (i := 1) rfl rfl rfl (by decide)) rfl ?_ | refine oS (ev_indexAddr_arr (i := 2) rfl rfl rfl (by decide)) rfl ?_ | refine oS (ev_indexAddr_arr (i := 3) rfl rfl rfl (by decide)) rfl ?_ | refine zJ rfl rfl ?_|refine jr rfl ?_|refine jn ?_|refine zM rfl rfl ?_|(refine zC rfl rfl ?_ rfl ?_;omega)|(refine zD rfl rfl ?_ rfl ?_;omega)|(refine zP rfl ?_ rfl ?_;omega)|refine zG rfl rfl rfl rfl ?_|(refine jdq rfl rfl ?_ ?_ ?_;kernel_rfl;kernel_rfl)|refine zB rfl rfl rfl (by repeat constructor) rfl ?_ | refine oS (ev_load rfl rfl (Rdb.ofB (n := 0) .here rfl)) rfl ?_ | refine oS (ev_load rfl rfl (Rdb.ofB (n := 0) (.there .here) rfl)) rfl ?_ | refine oS (ev_load rfl rfl (Rdb.ofB (n := 0) (.there (.there .here)) rfl)) rfl ?_)
    rw [show mix3 r.a 2 13 22 + (r.a &&& r.b ^^^ r.a &&& r.c ^^^ r.b &&& r.c) = T2 r from rfl]
    generalize T2 r = t2 at *
    refine oS (ev_build_arr (t := w32s [r.d + t1, r.e, r.f, r.g]) rfl (zs := z4) rfl rfl (fill_words [r.d + t1, r.e, r.f, r.g] 0 [] rfl)) rfl ?_
    refine oN (ev_store (b := b8) rfl rfl .agg rfl rfl lay4 (w32s_ones [r.d + t1, r.e, r.f, r.g]) (.there .here)) rfl ?_
    rintro _ _ _ _ ⟨rfl, _, rfl⟩
    repeat (first | refine jc rfl rfl ?_ | refine jr rfl ?_ | refine jn ?_ | refine oM rfl rfl ?_ | refine oS (eu rfl rfl rfl) rfl ?_ | refine oS (eus rfl rfl (by decide)) rfl ?_ | refine oS (eun rfl) rfl ?_ | refine oS (ev_indexAddr_arr (i := 0) rfl rfl rfl (by decide)) rfl ?_ | refine oS (ev_indexAddr_arr (i := 1) rfl rfl rfl (by decide)) rfl ?_ | refine oS (ev_indexAddr_arr (i := 2) rfl rfl rfl (by decide)) rfl ?_ | refine oS (ev_indexAddr_arr (i := 3) rfl rfl rfl (by decide)) rfl ?_ | refine zJ rfl rfl ?_|refine jr rfl ?_|refine jn ?_|refine zM rfl rfl ?_|(refine zC rfl rfl ?_ rfl ?_;omega)|(refine zD rfl rfl ?_ rfl ?_;omega)|(refine zP rfl ?_ rfl ?_;omega)|refine zG rfl rfl rfl rfl ?_|(refine jdq rfl rfl ?_ ?_ ?_;kernel_rfl;kernel_rfl)|refine zB rfl rfl rfl (by repeat constructor) rfl ?_ | refine oS (ev_load rfl rfl (Rdb.ofB (n := 0) .here rfl)) rfl ?_ | refine oS (ev_load rfl rfl (Rdb.ofB (n := 0) (.there .here) rfl)) rfl ?_ | refine oS (ev_load rfl rfl (Rdb.ofB (n := 0) (.there (.there .here)) rfl)) rfl ?_)
    refine oS (ev_build_arr (t := w32s [t1 + t2, r.a, r.b, r.c]) rfl (zs := z4) rfl rfl (fill_words [t1 + t2, r.a, r.b, r.c] 0 [] rfl)) rfl ?_
    refine oN (ev_store (b := b7) rfl rfl .agg rfl rfl lay4 (w32s_ones [t1 + t2, r.a, r.b, r.c]) .here) rfl ?_
    rintro _ _ _ _ ⟨rfl, _, rfl⟩
    repeat (first | refine jc rfl rfl ?_ | refine jr rfl ?_ | refine jn ?_ | refine oM rfl rfl ?_ | refine oS (eu rfl rfl rfl) rfl ?_ | refine oS (eus rfl rfl (by decide)) rfl ?_ | refine oS (eun rfl) rfl ?_ | refine oS (ev_indexAddr_arr (i := 0) rfl rfl rfl (by decide)) rfl ?_ | refine oS (ev_indexAddr_arr (i := 1) rfl rfl rfl (by decide)) rfl ?_ | refine oS (ev_indexAddr_arr (i := 2) rfl rfl rfl (by decide)) rfl ?_ | refine oS (ev_indexAddr_arr (i := 3) rfl rfl rfl (by decide)) rfl ?_ | refine zJ rfl rfl ?_|refine jr rfl ?_|refine jn ?_|refine zM rfl rfl ?_|(refine zC rfl rfl ?_ rfl ?_;omega)|(refine zD rfl rfl ?_ rfl ?_;omega)|(refine zP rfl ?_ rfl ?_;omega)|refine zG rfl rfl rfl rfl ?_|(refine jdq rfl rfl ?_ ?_ ?_;kernel_rfl;kernel_rfl)|refine zB rfl rfl rfl (by repeat constructor) rfl ?_ | refine oS (ev_load rfl rfl (Rdb.ofB (n := 0) .here rfl)) rfl ?_ | refine oS (ev_load rfl rfl (Rdb.ofB (n := 0) (.there .here) rfl)) rfl ?_ | refine oS (ev_load rfl rfl (Rdb.ofB (n := 0) (.there (.there .here)) rfl)) rfl ?_)
    refine J_again (i + 1) hlt (by omega) ⟨⟨rfl, rfl, rfl, rfl, rfl, rfl, rfl, trivial⟩, fun w s => ?_⟩
    rw [hr]
    exact s
  · obtain rfl : i = 64 := by omega
    have hcomp : comp s bs = s.add (rnds kW ws s 64) := by unfold comp; rw [hws]
    rw [hcomp]
    generalize rnds kW ws s 64 = r at *
    repeat (first|refine zJ rfl rfl ?_|refine jr rfl ?_|refine jn ?_|refine zM rfl rfl ?_|(refine zC rfl rfl ?_ rfl ?_;omega)|(refine zD rfl rfl ?_ rfl ?_;omega)|(refine zP rfl ?_ rfl ?_;omega)|refine zG rfl rfl rfl rfl ?_|(refine jdq rfl rfl ?_ ?_ ?_;kernel_rfl;kernel_rfl)|refine zB rfl rfl rfl (by repeat constructor) rfl ?_)
    refine J_loop (ι := Nat) (fun i => i ≤ 4) (fun i => 4 - i) (fun i => [(2, .pointer (some ⟨b2, 0, none⟩)), (4, .pointer (some ⟨b4, 0, none⟩)), (7, .pointer (some ⟨b7, 0, none⟩)), (8, .pointer (some ⟨b8, 0, none⟩)), (94, .int .i64 i)]) (fun _ => F2)
      (fun i => blk b2 116 (w32s (mixL s r i)) :: blk b7 124 (w32s [r.a, r.b, r.c, r.d]) :: blk b8 124 (w32s [r.e, r.f, r.g, r.h]) :: blk b4 116 (List.replicate 8 (.int .u32 0)) :: X)
      0 (Nat.zero_le _) ⟨⟨rfl, rfl, rfl, rfl, rfl, trivial⟩, fun w s => s.pick (.there (.there .here))⟩ ?_
    intro i hi
    by_cases hlt : i < 4
    · have hrest : i = 0 ∨ i = 1 ∨ i = 2 ∨ i = 3 := by omega
      rcases hrest with rfl | rfl | rfl | rfl
      · repeat (first | refine jc rfl rfl ?_ | refine jr rfl ?_ | refine jn ?_ | refine oM rfl rfl ?_ | refine oS (eu rfl rfl rfl) rfl ?_ | refine oS (eus rfl rfl (by decide)) rfl ?_ | refine oS (eun rfl) rfl ?_ | refine oS (ev_indexAddr_arr (i := 0) rfl rfl rfl (by decide)) rfl ?_ | refine oS (ev_indexAddr_arr (i := 1) rfl rfl rfl (by decide)) rfl ?_ | refine oS (ev_indexAddr_arr (i := 2) rfl rfl rfl (by decide)) rfl ?_ | refine oS (ev_indexAddr_arr (i := 3) rfl rfl rfl (by decide)) rfl ?_ | refine zJ rfl rfl ?_|refine jr rfl ?_|refine jn ?_|refine zM rfl rfl ?_|(refine zC rfl rfl ?_ rfl ?_;omega)|(refine zD rfl rfl ?_ rfl ?_;omega)|(refine zP rfl ?_ rfl ?_;omega)|refine zG rfl rfl rfl rfl ?_|(refine jdq rfl rfl ?_ ?_ ?_;kernel_rfl;kernel_rfl)|refine zB rfl rfl rfl (by repeat constructor) rfl ?_ | refine oS (ev_load rfl rfl (Rdb.ofB (n := 0) .here rfl)) rfl ?_ | refine oS (ev_load rfl rfl (Rdb.ofB (n := 0) (.there .here) rfl)) rfl ?_ | refine oS (ev_load rfl rfl (Rdb.ofB (n := 0) (.there (.there .here)) rfl)) rfl ?_) 
        refine jdl rfl ?_ ?_ ?_ ?_; kernel_rfl; kernel_rfl; kernel_rfl; dsimp only [List.dropLast] 
        repeat (first | refine jc rfl rfl ?_ | refine jr rfl ?_ | refine jn ?_ | refine oM rfl rfl ?_ | refine oS (eu rfl rfl rfl) rfl ?_ | refine oS (eus rfl rfl (by decide)) rfl ?_ | refine oS (eun rfl) rfl ?_ | refine oS (ev_indexAddr_arr (i := 0) rfl rfl rfl (by decide)) rfl ?_ | refine oS (ev_indexAddr_arr (i := 1) rfl rfl rfl (by decide)) rfl ?_ | refine oS (ev_indexAddr_arr (i := 2) rfl rfl rfl (by decide)) rfl ?_ | refine oS (ev_indexAddr_arr (i := 3) rfl rfl rfl (by decide)) rfl ?_ | refine zJ rfl rfl ?_|refine jr rfl ?_|refine jn ?_|refine zM rfl rfl ?_|(refine zC rfl rfl ?_ rfl ?_;omega)|(refine zD rfl rfl ?_ rfl ?_;omega)|(refine zP rfl ?_ rfl ?_;omega)|refine zG rfl rfl rfl rfl ?_|(refine jdq rfl rfl ?_ ?_ ?_;kernel_rfl;kernel_rfl)|refine zB rfl rfl rfl (by repeat constructor) rfl ?_ | refine oS (ev_load rfl rfl (Rdb.ofB (n := 0) .here rfl)) rfl ?_ | refine oS (ev_load rfl rfl (Rdb.ofB (n := 0) (.there .here) rfl)) rfl ?_ | refine oS (ev_load rfl rfl (Rdb.ofB (n := 0) (.there (.there .here)) rfl)) rfl ?_) 
        refine jL rfl ?_ 
        refine oN (ev_store (b := b2) (off := 0 + 0 * 1) rfl rfl .int rfl rfl (lay_w (L := mixL s r 0) (i := 0) (show 0 < 8 by decide)) (ones_cons rfl ones_nil) .here) rfl ?_ 
        rintro _ _ _ _ ⟨rfl, _, rfl⟩ 
        repeat (first | refine jc rfl rfl ?_ | refine jr rfl ?_ | refine jn ?_ | refine oM rfl rfl ?_ | refine oS (eu rfl rfl rfl) rfl ?_ | refine oS (eus rfl rfl (by decide)) rfl ?_ | refine oS (eun rfl) rfl ?_ | refine oS (ev_indexAddr_arr (i := 0) rfl rfl rfl (by decide)) rfl ?_ | refine oS (ev_indexAddr_arr (i := 1) rfl rfl rfl (by decide)) rfl ?_ | refine oS (ev_indexAddr_arr (i := 2) rfl rfl rfl (by decide)) rfl ?_ | refine oS (ev_indexAddr_arr (i := 3) rfl rfl rfl (by decide)) rfl ?_ | refine zJ rfl rfl ?_|refine jr rfl ?_|refine jn ?_|refine zM rfl rfl ?_|(refine zC rfl rfl ?_ rfl ?_;omega)|(refine zD rfl rfl ?_ rfl ?_;omega)|(refine zP rfl ?_ rfl ?_;omega)|refine zG rfl rfl rfl rfl ?_|(refine jdq rfl rfl ?_ ?_ ?_;kernel_rfl;kernel_rfl)|refine zB rfl rfl rfl (by repeat constructor) rfl ?_ | refine oS (ev_load rfl rfl (Rdb.ofB (n := 0) .here rfl)) rfl ?_ | refine oS (ev_load rfl rfl (Rdb.ofB (n := 0) (.there .here) rfl)) rfl ?_ | refine oS (ev_load rfl rfl (Rdb.ofB (n := 0) (.there (.there .here)) rfl)) rfl ?_) 
        refine jdl rfl ?_ ?_ ?_ ?_; kernel_rfl; kernel_rfl; kernel_rfl; dsimp only [List.dropLast] 
        repeat (first | refine jc rfl rfl ?_ | refine jr rfl ?_ | refine jn ?_ | refine oM rfl rfl ?_ | refine oS (eu rfl rfl rfl) rfl ?_ | refine oS (eus rfl rfl (by decide)) rfl ?_ | refine oS (eun rfl) rfl ?_ | refine oS (ev_indexAddr_arr (i := 0) rfl rfl rfl (by decide)) rfl ?_ | refine oS (ev_indexAddr_arr (i := 1) rfl rfl rfl (by decide)) rfl ?_ | refine oS (ev_indexAddr_arr (i := 2) rfl rfl rfl (by decide)) rfl ?_ | refine oS (ev_indexAddr_arr (i := 3) rfl rfl rfl (by decide)) rfl ?_ | refine zJ rfl rfl ?_|refine jr rfl ?_|refine jn ?_|refine zM rfl rfl ?_|(refine zC rfl rfl ?_ rfl ?_;omega)|(refine zD rfl rfl ?_ rfl ?_;omega)|(refine zP rfl ?_ rfl ?_;omega)|refine zG rfl rfl rfl rfl ?_|(refine jdq rfl rfl ?_ ?_ ?_;kernel_rfl;kernel_rfl)|refine zB rfl rfl rfl (by repeat constructor) rfl ?_ | refine oS (ev_load rfl rfl (Rdb.ofB (n := 0) .here rfl)) rfl ?_ | refine oS (ev_load rfl rfl (Rdb.ofB (n := 0) (.there .here) rfl)) rfl ?_ | refine oS (ev_load rfl rfl (Rdb.ofB (n := 0) (.there (.there .here)) rfl)) rfl ?_) 
        refine oS (ev_indexAddr_arr (i := 4) rfl rfl rfl (by decide)) rfl ?_ 
        repeat (first | refine jc rfl rfl ?_ | refine jr rfl ?_ | refine jn ?_ | refine oM rfl rfl ?_ | refine oS (eu rfl rfl rfl) rfl ?_ | refine oS (eus rfl rfl (by decide)) rfl ?_ | refine oS (eun rfl) rfl ?_ | refine oS (ev_indexAddr_arr (i := 0) rfl rfl rfl (by decide)) rfl ?_ | refine oS (ev_indexAddr_arr (i := 1) rfl rfl rfl (by decide)) rfl ?_ | refine oS (ev_indexAddr_arr (i := 2) rfl rfl rfl (by decide)) rfl ?_ | refine oS (ev_indexAddr_arr (i := 3) rfl rfl rfl (by decide)) rfl ?_ | refine zJ rfl rfl ?_|refine jr rfl ?_|refine jn ?_|refine zM rfl rfl ?_|(refine zC rfl rfl ?_ rfl ?_;omega)|(refine zD rfl rfl ?_ rfl ?_;omega)|(refine zP rfl ?_ rfl ?_;omega)|refine zG rfl rfl rfl rfl ?_|(refine jdq rfl rfl ?_ ?_ ?_;kernel_rfl;kernel_rfl)|refine zB rfl rfl rfl (by repeat constructor) rfl ?_ | refine oS (ev_load rfl rfl (Rdb.ofB (n := 0) .here rfl)) rfl ?_ | refine oS (ev_load rfl rfl (Rdb.ofB (n := 0) (.there .here) rfl)) rfl ?_ | refine oS (ev_load rfl rfl (Rdb.ofB (n := 0) (.there (.there .here)) rfl)) rfl ?_) 
        refine oS (ev_indexAddr_arr (i := 4) rfl rfl rfl (by decide)) rfl ?_ 
        refine jn ?_ 
        refine jL rfl ?_ 
        refine oN (ev_store (b := b2) (off := 0 + 4 * 1) rfl rfl .int rfl rfl (lay_w (L := (mixL s r 0).set 0 _) (i := 4) (show 4 < 8 by decide)) (ones_cons rfl ones_nil) .here) rfl ?_ 
        rintro _ _ _ _ ⟨rfl, _, rfl⟩ 
        repeat (first | refine jc rfl rfl ?_ | refine jr rfl ?_ | refine jn ?_ | refine oM rfl rfl ?_ | refine oS (eu rfl rfl rfl) rfl ?_ | refine oS (eus rfl rfl (by decide)) rfl ?_ | refine oS (eun rfl) rfl ?_ | refine oS (ev_indexAddr_arr (i := 0) rfl rfl rfl (by decide)) rfl ?_ | refine oS (ev_indexAddr_arr (i := 1) rfl rfl rfl (by decide)) rfl ?_ | refine oS (ev_indexAddr_arr (i := 2) rfl rfl rfl (by decide)) rfl ?_ | refine oS (ev_indexAddr_arr (i := 3) rfl rfl rfl (by decide)) rfl ?_ | refine zJ rfl rfl ?_|refine jr rfl ?_|refine jn ?_|refine zM rfl rfl ?_|(refine zC rfl rfl ?_ rfl ?_;omega)|(refine zD rfl rfl ?_ rfl ?_;omega)|(refine zP rfl ?_ rfl ?_;omega)|refine zG rfl rfl rfl rfl ?_|(refine jdq rfl rfl ?_ ?_ ?_;kernel_rfl;kernel_rfl)|refine zB rfl rfl rfl (by repeat constructor) rfl ?_ | refine oS (ev_load rfl rfl (Rdb.ofB (n := 0) .here rfl)) rfl ?_ | refine oS (ev_load rfl rfl (Rdb.ofB (n := 0) (.there .here) rfl)) rfl ?_ | refine oS (ev_load rfl rfl (Rdb.ofB (n := 0) (.there (.there .here)) rfl)) rfl ?_) 
        refine J_again (0 + 1) (by decide) (by decide) ⟨⟨rfl, rfl, rfl, rfl, rfl, trivial⟩, fun w s => ?_⟩ 
        refine cast (congrArg (fun L => Sat F2 (blk b2 116 (w32s L) :: _) w) ?_) s 
        simp [mixL]
      · repeat (first | refine jc rfl rfl ?_ | refine jr rfl ?_ | refine jn ?_ | refine oM rfl rfl ?_ | refine oS (eu rfl rfl rfl) rfl ?_ | refine oS (eus rfl rfl (by decide)) rfl ?_ | refine oS (eun rfl) rfl ?_ | refine oS (ev_indexAddr_arr (i := 0) rfl rfl rfl (by decide)) rfl ?_ | refine oS (ev_indexAddr_arr (i := 1) rfl rfl rfl (by decide)) rfl ?_ | refine oS (ev_indexAddr_arr (i := 2) rfl rfl rfl (by decide)) rfl ?_ | refine oS (ev_indexAddr_arr (i := 3) rfl rfl rfl (by decide)) rfl ?_ | refine zJ rfl rfl ?_|refine jr rfl ?_|refine jn ?_|refine zM rfl rfl ?_|(refine zC rfl rfl ?_ rfl ?_;omega)|(refine zD rfl rfl ?_ rfl ?_;omega)|(refine zP rfl ?_ rfl ?_;omega)|refine zG rfl rfl rfl rfl ?_|(refine jdq rfl rfl ?_ ?_ ?_;kernel_rfl;kernel_rfl)|refine zB rfl rfl rfl (by repeat constructor) rfl ?_ | refine oS (ev_load rfl rfl (Rdb.ofB (n := 0) .here rfl)) rfl ?_ | refine oS (ev_load rfl rfl (Rdb.ofB (n := 0) (.there .here) rfl)) rfl ?_ | refine oS (ev_load rfl rfl (Rdb.ofB (n := 0) (.there (.there .here)) rfl)) rfl ?_) 
        refine jdl rfl ?_ ?_ ?_ ?_; kernel_rfl; kernel_rfl; kernel_rfl; dsimp only [List.dropLast] 
        repeat (first | refine jc rfl rfl ?_ | refine jr rfl ?_ | refine jn ?_ | refine oM rfl rfl ?_ | refine oS (eu rfl rfl rfl) rfl ?_ | refine oS (eus rfl rfl (by decide)) rfl ?_ | refine oS (eun rfl) rfl ?_ | refine oS (ev_indexAddr_arr (i := 0) rfl rfl rfl (by decide)) rfl ?_ | refine oS (ev_indexAddr_arr (i := 1) rfl rfl rfl (by decide)) rfl ?_ | refine oS (ev_indexAddr_arr (i := 2) rfl rfl rfl (by decide)) rfl ?_ | refine oS (ev_indexAddr_arr (i := 3) rfl rfl rfl (by decide)) rfl ?_ | refine zJ rfl rfl ?_|refine jr rfl ?_|refine jn ?_|refine zM rfl rfl ?_|(refine zC rfl rfl ?_ rfl ?_;omega)|(refine zD rfl rfl ?_ rfl ?_;omega)|(refine zP rfl ?_ rfl ?_;omega)|refine zG rfl rfl rfl rfl ?_|(refine jdq rfl rfl ?_ ?_ ?_;kernel_rfl;kernel_rfl)|refine zB rfl rfl rfl (by repeat constructor) rfl ?_ | refine oS (ev_load rfl rfl (Rdb.ofB (n := 0) .here rfl)) rfl ?_ | refine oS (ev_load rfl rfl (Rdb.ofB (n := 0) (.there .here) rfl)) rfl ?_ | refine oS (ev_load rfl rfl (Rdb.ofB (n := 0) (.there (.there .here)) rfl)) rfl ?_) 
        refine jL rfl ?_ 
        refine oN (ev_store (b := b2) (off := 0 + 1 * 1) rfl rfl .int rfl rfl (lay_w (L := mixL s r 1) (i := 1) (show 1 < 8 by decide)) (ones_cons rfl ones_nil) .here) rfl ?_ 
        rintro _ _ _ _ ⟨rfl, _, rfl⟩ 
        repeat (first | refine jc rfl rfl ?_ | refine jr rfl ?_ | refine jn ?_ | refine oM rfl rfl ?_ | refine oS (eu rfl rfl rfl) rfl ?_ | refine oS (eus rfl rfl (by decide)) rfl ?_ | refine oS (eun rfl) rfl ?_ | refine oS (ev_indexAddr_arr (i := 0) rfl rfl rfl (by decide)) rfl ?_ | refine oS (ev_indexAddr_arr (i := 1) rfl rfl rfl (by decide)) rfl ?_ | refine oS (ev_indexAddr_arr (i := 2) rfl rfl rfl (by decide)) rfl ?_ | refine oS (ev_indexAddr_arr (i := 3) rfl rfl rfl (by decide)) rfl ?_ | refine zJ rfl rfl ?_|refine jr rfl ?_|refine jn ?_|refine zM rfl rfl ?_|(refine zC rfl rfl ?_ rfl ?_;omega)|(refine zD rfl rfl ?_ rfl ?_;omega)|(refine zP rfl ?_ rfl ?_;omega)|refine zG rfl rfl rfl rfl ?_|(refine jdq rfl rfl ?_ ?_ ?_;kernel_rfl;kernel_rfl)|refine zB rfl rfl rfl (by repeat constructor) rfl ?_ | refine oS (ev_load rfl rfl (Rdb.ofB (n := 0) .here rfl)) rfl ?_ | refine oS (ev_load rfl rfl (Rdb.ofB (n := 0) (.there .here) rfl)) rfl ?_ | refine oS (ev_load rfl rfl (Rdb.ofB (n := 0) (.there (.there .here)) rfl)) rfl ?_) 
        refine jdl rfl ?_ ?_ ?_ ?_; kernel_rfl; kernel_rfl; kernel_rfl; dsimp only [List.dropLast] 
        repeat (first | refine jc rfl rfl ?_ | refine jr rfl ?_ | refine jn ?_ | refine oM rfl rfl ?_ | refine oS (eu rfl rfl rfl) rfl ?_ | refine oS (eus rfl rfl (by decide)) rfl ?_ | refine oS (eun rfl) rfl ?_ | refine oS (ev_indexAddr_arr (i := 0) rfl rfl rfl (by decide)) rfl ?_ | refine oS (ev_indexAddr_arr (i := 1) rfl rfl rfl (by decide)) rfl ?_ | refine oS (ev_indexAddr_arr (i := 2) rfl rfl rfl (by decide)) rfl ?_ | refine oS (ev_indexAddr_arr (i := 3) rfl rfl rfl (by decide)) rfl ?_ | refine zJ rfl rfl ?_|refine jr rfl ?_|refine jn ?_|refine zM rfl rfl ?_|(refine zC rfl rfl ?_ rfl ?_;omega)|(refine zD rfl rfl ?_ rfl ?_;omega)|(refine zP rfl ?_ rfl ?_;omega)|refine zG rfl rfl rfl rfl ?_|(refine jdq rfl rfl ?_ ?_ ?_;kernel_rfl;kernel_rfl)|refine zB rfl rfl rfl (by repeat constructor) rfl ?_ | refine oS (ev_load rfl rfl (Rdb.ofB (n := 0) .here rfl)) rfl ?_ | refine oS (ev_load rfl rfl (Rdb.ofB (n := 0) (.there .here) rfl)) rfl ?_ | refine oS (ev_load rfl rfl (Rdb.ofB (n := 0) (.there (.there .here)) rfl)) rfl ?_) 
        refine oS (ev_indexAddr_arr (i := 5) rfl rfl rfl (by decide)) rfl ?_ 
        repeat (first | refine jc rfl rfl ?_ | refine jr rfl ?_ | refine jn ?_ | refine oM rfl rfl ?_ | refine oS (eu rfl rfl rfl) rfl ?_ | refine oS (eus rfl rfl (by decide)) rfl ?_ | refine oS (eun rfl) rfl ?_ | refine oS (ev_indexAddr_arr (i := 0) rfl rfl rfl (by decide)) rfl ?_ | refine oS (ev_indexAddr_arr (i := 1) rfl rfl rfl (by decide)) rfl ?_ | refine oS (ev_indexAddr_arr (i := 2) rfl rfl rfl (by decide)) rfl ?_ | refine oS (ev_indexAddr_arr (i := 3) rfl rfl rfl (by decide)) rfl ?_ | refine zJ rfl rfl ?_|refine jr rfl ?_|refine jn ?_|refine zM rfl rfl ?_|(refine zC rfl rfl ?_ rfl ?_;omega)|(refine zD rfl rfl ?_ rfl ?_;omega)|(refine zP rfl ?_ rfl ?_;omega)|refine zG rfl rfl rfl rfl ?_|(refine jdq rfl rfl ?_ ?_ ?_;kernel_rfl;kernel_rfl)|refine zB rfl rfl rfl (by repeat constructor) rfl ?_ | refine oS (ev_load rfl rfl (Rdb.ofB (n := 0) .here rfl)) rfl ?_ | refine oS (ev_load rfl rfl (Rdb.ofB (n := 0) (.there .here) rfl)) rfl ?_ | refine oS (ev_load rfl rfl (Rdb.ofB (n := 0) (.there (.there .here)) rfl)) rfl ?_) 
        refine oS (ev_indexAddr_arr (i := 5) rfl rfl rfl (by decide)) rfl ?_ 
        refine jn ?_ 
        refine jL rfl ?_ 
        refine oN (ev_store (b := b2) (off := 0 + 5 * 1) rfl rfl .int rfl rfl (lay_w (L := (mixL s r 1).set 1 _) (i := 5) (show 5 < 8 by decide)) (ones_cons rfl ones_nil) .here) rfl ?_ 
        rintro _ _ _ _ ⟨rfl, _, rfl⟩ 
        repeat (first | refine jc rfl rfl ?_ | refine jr rfl ?_ | refine jn ?_ | refine oM rfl rfl ?_ | refine oS (eu rfl rfl rfl) rfl ?_ | refine oS (eus rfl rfl (by decide)) rfl ?_ | refine oS (eun rfl) rfl ?_ | refine oS (ev_indexAddr_arr (i := 0) rfl rfl rfl (by decide)) rfl ?_ | refine oS (ev_indexAddr_arr (i := 1) rfl rfl rfl (by decide)) rfl ?_ | refine oS (ev_indexAddr_arr (i := 2) rfl rfl rfl (by decide)) rfl ?_ | refine oS (ev_indexAddr_arr (i := 3) rfl rfl rfl (by decide)) rfl ?_ | refine zJ rfl rfl ?_|refine jr rfl ?_|refine jn ?_|refine zM rfl rfl ?_|(refine zC rfl rfl ?_ rfl ?_;omega)|(refine zD rfl rfl ?_ rfl ?_;omega)|(refine zP rfl ?_ rfl ?_;omega)|refine zG rfl rfl rfl rfl ?_|(refine jdq rfl rfl ?_ ?_ ?_;kernel_rfl;kernel_rfl)|refine zB rfl rfl rfl (by repeat constructor) rfl ?_ | refine oS (ev_load rfl rfl (Rdb.ofB (n := 0) .here rfl)) rfl ?_ | refine oS (ev_load rfl rfl (Rdb.ofB (n := 0) (.there .here) rfl)) rfl ?_ | refine oS (ev_load rfl rfl (Rdb.ofB (n := 0) (.there (.there .here)) rfl)) rfl ?_) 
        refine J_again (1 + 1) (by decide) (by decide) ⟨⟨rfl, rfl, rfl, rfl, rfl, trivial⟩, fun w s => ?_⟩ 
        refine cast (congrArg (fun L => Sat F2 (blk b2 116 (w32s L) :: _) w) ?_) s 
        simp [mixL]
      · repeat (first | refine jc rfl rfl ?_ | refine jr rfl ?_ | refine jn ?_ | refine oM rfl rfl ?_ | refine oS (eu rfl rfl rfl) rfl ?_ | refine oS (eus rfl rfl (by decide)) rfl ?_ | refine oS (eun rfl) rfl ?_ | refine oS (ev_indexAddr_arr (i := 0) rfl rfl rfl (by decide)) rfl ?_ | refine oS (ev_indexAddr_arr (i := 1) rfl rfl rfl (by decide)) rfl ?_ | refine oS (ev_indexAddr_arr (i := 2) rfl rfl rfl (by decide)) rfl ?_ | refine oS (ev_indexAddr_arr (i := 3) rfl rfl rfl (by decide)) rfl ?_ | refine zJ rfl rfl ?_|refine jr rfl ?_|refine jn ?_|refine zM rfl rfl ?_|(refine zC rfl rfl ?_ rfl ?_;omega)|(refine zD rfl rfl ?_ rfl ?_;omega)|(refine zP rfl ?_ rfl ?_;omega)|refine zG rfl rfl rfl rfl ?_|(refine jdq rfl rfl ?_ ?_ ?_;kernel_rfl;kernel_rfl)|refine zB rfl rfl rfl (by repeat constructor) rfl ?_ | refine oS (ev_load rfl rfl (Rdb.ofB (n := 0) .here rfl)) rfl ?_ | refine oS (ev_load rfl rfl (Rdb.ofB (n := 0) (.there .here) rfl)) rfl ?_ | refine oS (ev_load rfl rfl (Rdb.ofB (n := 0) (.there (.there .here)) rfl)) rfl ?_) 
        refine jdl rfl ?_ ?_ ?_ ?_; kernel_rfl; kernel_rfl; kernel_rfl; dsimp only [List.dropLast] 
        repeat (first | refine jc rfl rfl ?_ | refine jr rfl ?_ | refine jn ?_ | refine oM rfl rfl ?_ | refine oS (eu rfl rfl rfl) rfl ?_ | refine oS (eus rfl rfl (by decide)) rfl ?_ | refine oS (eun rfl) rfl ?_ | refine oS (ev_indexAddr_arr (i := 0) rfl rfl rfl (by decide)) rfl ?_ | refine oS (ev_indexAddr_arr (i := 1) rfl rfl rfl (by decide)) rfl ?_ | refine oS (ev_indexAddr_arr (i := 2) rfl rfl rfl (by decide)) rfl ?_ | refine oS (ev_indexAddr_arr (i := 3) rfl rfl rfl (by decide)) rfl ?_ | refine zJ rfl rfl ?_|refine jr rfl ?_|refine jn ?_|refine zM rfl rfl ?_|(refine zC rfl rfl ?_ rfl ?_;omega)|(refine zD rfl rfl ?_ rfl ?_;omega)|(refine zP rfl ?_ rfl ?_;omega)|refine zG rfl rfl rfl rfl ?_|(refine jdq rfl rfl ?_ ?_ ?_;kernel_rfl;kernel_rfl)|refine zB rfl rfl rfl (by repeat constructor) rfl ?_ | refine oS (ev_load rfl rfl (Rdb.ofB (n := 0) .here rfl)) rfl ?_ | refine oS (ev_load rfl rfl (Rdb.ofB (n := 0) (.there .here) rfl)) rfl ?_ | refine oS (ev_load rfl rfl (Rdb.ofB (n := 0) (.there (.there .here)) rfl)) rfl ?_) 
        refine jL rfl ?_ 
        refine oN (ev_store (b := b2) (off := 0 + 2 * 1) rfl rfl .int rfl rfl (lay_w (L := mixL s r 2) (i := 2) (show 2 < 8 by decide)) (ones_cons rfl ones_nil) .here) rfl ?_ 
        rintro _ _ _ _ ⟨rfl, _, rfl⟩ 
        repeat (first | refine jc rfl rfl ?_ | refine jr rfl ?_ | refine jn ?_ | refine oM rfl rfl ?_ | refine oS (eu rfl rfl rfl) rfl ?_ | refine oS (eus rfl rfl (by decide)) rfl ?_ | refine oS (eun rfl) rfl ?_ | refine oS (ev_indexAddr_arr (i := 0) rfl rfl rfl (by decide)) rfl ?_ | refine oS (ev_indexAddr_arr (i := 1) rfl rfl rfl (by decide)) rfl ?_ | refine oS (ev_indexAddr_arr (i := 2) rfl rfl rfl (by decide)) rfl ?_ | refine oS (ev_indexAddr_arr (i := 3) rfl rfl rfl (by decide)) rfl ?_ | refine zJ rfl rfl ?_|refine jr rfl ?_|refine jn ?_|refine zM rfl rfl ?_|(refine zC rfl rfl ?_ rfl ?_;omega)|(refine zD rfl rfl ?_ rfl ?_;omega)|(refine zP rfl ?_ rfl ?_;omega)|refine zG rfl rfl rfl rfl ?_|(refine jdq rfl rfl ?_ ?_ ?_;kernel_rfl;kernel_rfl)|refine zB rfl rfl rfl (by repeat constructor) rfl ?_ | refine oS (ev_load rfl rfl (Rdb.ofB (n := 0) .here rfl)) rfl ?_ | refine oS (ev_load rfl rfl (Rdb.ofB (n := 0) (.there .here) rfl)) rfl ?_ | refine oS (ev_load rfl rfl (Rdb.ofB (n := 0) (.there (.there .here)) rfl)) rfl ?_) 
        refine jdl rfl ?_ ?_ ?_ ?_; kernel_rfl; kernel_rfl; kernel_rfl; dsimp only [List.dropLast] 
        repeat (first | refine jc rfl rfl ?_ | refine jr rfl ?_ | refine jn ?_ | refine oM rfl rfl ?_ | refine oS (eu rfl rfl rfl) rfl ?_ | refine oS (eus rfl rfl (by decide)) rfl ?_ | refine oS (eun rfl) rfl ?_ | refine oS (ev_indexAddr_arr (i := 0) rfl rfl rfl (by decide)) rfl ?_ | refine oS (ev_indexAddr_arr (i := 1) rfl rfl rfl (by decide)) rfl ?_ | refine oS (ev_indexAddr_arr (i := 2) rfl rfl rfl (by decide)) rfl ?_ | refine oS (ev_indexAddr_arr (i := 3) rfl rfl rfl (by decide)) rfl ?_ | refine zJ rfl rfl ?_|refine jr rfl ?_|refine jn ?_|refine zM rfl rfl ?_|(refine zC rfl rfl ?_ rfl ?_;omega)|(refine zD rfl rfl ?_ rfl ?_;omega)|(refine zP rfl ?_ rfl ?_;omega)|refine zG rfl rfl rfl rfl ?_|(refine jdq rfl rfl ?_ ?_ ?_;kernel_rfl;kernel_rfl)|refine zB rfl rfl rfl (by repeat constructor) rfl ?_ | refine oS (ev_load rfl rfl (Rdb.ofB (n := 0) .here rfl)) rfl ?_ | refine oS (ev_load rfl rfl (Rdb.ofB (n := 0) (.there .here) rfl)) rfl ?_ | refine oS (ev_load rfl rfl (Rdb.ofB (n := 0) (.there (.there .here)) rfl)) rfl ?_) 
        refine oS (ev_indexAddr_arr (i := 6) rfl rfl rfl (by decide)) rfl ?_ 
        repeat (first | refine jc rfl rfl ?_ | refine jr rfl ?_ | refine jn ?_ | refine oM rfl rfl ?_ | refine oS (eu rfl rfl rfl) rfl ?_ | refine oS (eus rfl rfl (by decide)) rfl ?_ | refine oS (eun rfl) rfl ?_ | refine oS (ev_indexAddr_arr (i := 0) rfl rfl rfl (by decide)) rfl ?_ | refine oS (ev_indexAddr_arr (i := 1) rfl rfl rfl (by decide)) rfl ?_ | refine oS (ev_indexAddr_arr (i := 2) rfl rfl rfl (by decide)) rfl ?_ | refine oS (ev_indexAddr_arr (i := 3) rfl rfl rfl (by decide)) rfl ?_ | refine zJ rfl rfl ?_|refine jr rfl ?_|refine jn ?_|refine zM rfl rfl ?_|(refine zC rfl rfl ?_ rfl ?_;omega)|(refine zD rfl rfl ?_ rfl ?_;omega)|(refine zP rfl ?_ rfl ?_;omega)|refine zG rfl rfl rfl rfl ?_|(refine jdq rfl rfl ?_ ?_ ?_;kernel_rfl;kernel_rfl)|refine zB rfl rfl rfl (by repeat constructor) rfl ?_ | refine oS (ev_load rfl rfl (Rdb.ofB (n := 0) .here rfl)) rfl ?_ | refine oS (ev_load rfl rfl (Rdb.ofB (n := 0) (.there .here) rfl)) rfl ?_ | refine oS (ev_load rfl rfl (Rdb.ofB (n := 0) (.there (.there .here)) rfl)) rfl ?_) 
        refine oS (ev_indexAddr_arr (i := 6) rfl rfl rfl (by decide)) rfl ?_ 
        refine jn ?_ 
        refine jL rfl ?_ 
        refine oN (ev_store (b := b2) (off := 0 + 6 * 1) rfl rfl .int rfl rfl (lay_w (L := (mixL s r 2).set 2 _) (i := 6) (show 6 < 8 by decide)) (ones_cons rfl ones_nil) .here) rfl ?_ 
        rintro _ _ _ _ ⟨rfl, _, rfl⟩ 
        repeat (first | refine jc rfl rfl ?_ | refine jr rfl ?_ | refine jn ?_ | refine oM rfl rfl ?_ | refine oS (eu rfl rfl rfl) rfl ?_ | refine oS (eus rfl rfl (by decide)) rfl ?_ | refine oS (eun rfl) rfl ?_ | refine oS (ev_indexAddr_arr (i := 0) rfl rfl rfl (by decide)) rfl ?_ | refine oS (ev_indexAddr_arr (i := 1) rfl rfl rfl (by decide)) rfl ?_ | refine oS (ev_indexAddr_arr (i := 2) rfl rfl rfl (by decide)) rfl ?_ | refine oS (ev_indexAddr_arr (i := 3) rfl rfl rfl (by decide)) rfl ?_ | refine zJ rfl rfl ?_|refine jr rfl ?_|refine jn ?_|refine zM rfl rfl ?_|(refine zC rfl rfl ?_ rfl ?_;omega)|(refine zD rfl rfl ?_ rfl ?_;omega)|(refine zP rfl ?_ rfl ?_;omega)|refine zG rfl rfl rfl rfl ?_|(refine jdq rfl rfl ?_ ?_ ?_;kernel_rfl;kernel_rfl)|refine zB rfl rfl rfl (by repeat constructor) rfl ?_ | refine oS (ev_load rfl rfl (Rdb.ofB (n := 0) .here rfl)) rfl ?_ | refine oS (ev_load rfl rfl (Rdb.ofB (n := 0) (.there .here) rfl)) rfl ?_ | refine oS (ev_load rfl rfl (Rdb.ofB (n := 0) (.there (.there .here)) rfl)) rfl ?_) 
        refine J_again (2 + 1) (by decide) (by decide) ⟨⟨rfl, rfl, rfl, rfl, rfl, trivial⟩, fun w s => ?_⟩ 
        refine cast (congrArg (fun L => Sat F2 (blk b2 116 (w32s L) :: _) w) ?_) s 
        simp [mixL]
      · repeat (first | refine jc rfl rfl ?_ | refine jr rfl ?_ | refine jn ?_ | refine oM rfl rfl ?_ | refine oS (eu rfl rfl rfl) rfl ?_ | refine oS (eus rfl rfl (by decide)) rfl ?_ | refine oS (eun rfl) rfl ?_ | refine oS (ev_indexAddr_arr (i := 0) rfl rfl rfl (by decide)) rfl ?_ | refine oS (ev_indexAddr_arr (i := 1) rfl rfl rfl (by decide)) rfl ?_ | refine oS (ev_indexAddr_arr (i := 2) rfl rfl rfl (by decide)) rfl ?_ | refine oS (ev_indexAddr_arr (i := 3) rfl rfl rfl (by decide)) rfl ?_ | refine zJ rfl rfl ?_|refine jr rfl ?_|refine jn ?_|refine zM rfl rfl ?_|(refine zC rfl rfl ?_ rfl ?_;omega)|(refine zD rfl rfl ?_ rfl ?_;omega)|(refine zP rfl ?_ rfl ?_;omega)|refine zG rfl rfl rfl rfl ?_|(refine jdq rfl rfl ?_ ?_ ?_;kernel_rfl;kernel_rfl)|refine zB rfl rfl rfl (by repeat constructor) rfl ?_ | refine oS (ev_load rfl rfl (Rdb.ofB (n := 0) .here rfl)) rfl ?_ | refine oS (ev_load rfl rfl (Rdb.ofB (n := 0) (.there .here) rfl)) rfl ?_ | refine oS (ev_load rfl rfl (Rdb.ofB (n := 0) (.there (.there .here)) rfl)) rfl ?_) 
        refine jdl rfl ?_ ?_ ?_ ?_; kernel_rfl; kernel_rfl; kernel_rfl; dsimp only [List.dropLast] 
        repeat (first | refine jc rfl rfl ?_ | refine jr rfl ?_ | refine jn ?_ | refine oM rfl rfl ?_ | refine oS (eu rfl rfl rfl) rfl ?_ | refine oS (eus rfl rfl (by decide)) rfl ?_ | refine oS (eun rfl) rfl ?_ | refine oS (ev_indexAddr_arr (i := 0) rfl rfl rfl (by decide)) rfl ?_ | refine oS (ev_indexAddr_arr (i := 1) rfl rfl rfl (by decide)) rfl ?_ | refine oS (ev_indexAddr_arr (i := 2) rfl rfl rfl (by decide)) rfl ?_ | refine oS (ev_indexAddr_arr (i := 3) rfl rfl rfl (by decide)) rfl ?_ | refine zJ rfl rfl ?_|refine jr rfl ?_|refine jn ?_|refine zM rfl rfl ?_|(refine zC rfl rfl ?_ rfl ?_;omega)|(refine zD rfl rfl ?_ rfl ?_;omega)|(refine zP rfl ?_ rfl ?_;omega)|refine zG rfl rfl rfl rfl ?_|(refine jdq rfl rfl ?_ ?_ ?_;kernel_rfl;kernel_rfl)|refine zB rfl rfl rfl (by repeat constructor) rfl ?_ | refine oS (ev_load rfl rfl (Rdb.ofB (n := 0) .here rfl)) rfl ?_ | refine oS (ev_load rfl rfl (Rdb.ofB (n := 0) (.there .here) rfl)) rfl ?_ | refine oS (ev_load rfl rfl (Rdb.ofB (n := 0) (.there (.there .here)) rfl)) rfl ?_) 
        refine jL rfl ?_ 
        refine oN (ev_store (b := b2) (off := 0 + 3 * 1) rfl rfl .int rfl rfl (lay_w (L := mixL s r 3) (i := 3) (show 3 < 8 by decide)) (ones_cons rfl ones_nil) .here) rfl ?_ 
        rintro _ _ _ _ ⟨rfl, _, rfl⟩ 
        repeat (first | refine jc rfl rfl ?_ | refine jr rfl ?_ | refine jn ?_ | refine oM rfl rfl ?_ | refine oS (eu rfl rfl rfl) rfl ?_ | refine oS (eus rfl rfl (by decide)) rfl ?_ | refine oS (eun rfl) rfl ?_ | refine oS (ev_indexAddr_arr (i := 0) rfl rfl rfl (by decide)) rfl ?_ | refine oS (ev_indexAddr_arr (i := 1) rfl rfl rfl (by decide)) rfl ?_ | refine oS (ev_indexAddr_arr (i := 2) rfl rfl rfl (by decide)) rfl ?_ | refine oS (ev_indexAddr_arr (i := 3) rfl rfl rfl (by decide)) rfl ?_ | refine zJ rfl rfl ?_|refine jr rfl ?_|refine jn ?_|refine zM rfl rfl ?_|(refine zC rfl rfl ?_ rfl ?_;omega)|(refine zD rfl rfl ?_ rfl ?_;omega)|(refine zP rfl ?_ rfl ?_;omega)|refine zG rfl rfl rfl rfl ?_|(refine jdq rfl rfl ?_ ?_ ?_;kernel_rfl;kernel_rfl)|refine zB rfl rfl rfl (by repeat constructor) rfl ?_ | refine oS (ev_load rfl rfl (Rdb.ofB (n := 0) .here rfl)) rfl ?_ | refine oS (ev_load rfl rfl (Rdb.ofB (n := 0) (.there .here) rfl)) rfl ?_ | refine oS (ev_load rfl rfl (Rdb.ofB (n := 0) (.there (.there .here)) rfl)) rfl ?_) 
        refine jdl rfl ?_ ?_ ?_ ?_; kernel_rfl; kernel_rfl; kernel_rfl; dsimp only [List.dropLast] 
        repeat (first | refine jc rfl rfl ?_ | refine jr rfl ?_ | refine jn ?_ | refine oM rfl rfl ?_ | refine oS (eu rfl rfl rfl) rfl ?_ | refine oS (eus rfl rfl (by decide)) rfl ?_ | refine oS (eun rfl) rfl ?_ | refine oS (ev_indexAddr_arr (i := 0) rfl rfl rfl (by decide)) rfl ?_ | refine oS (ev_indexAddr_arr (i := 1) rfl rfl rfl (by decide)) rfl ?_ | refine oS (ev_indexAddr_arr (i := 2) rfl rfl rfl (by decide)) rfl ?_ | refine oS (ev_indexAddr_arr (i := 3) rfl rfl rfl (by decide)) rfl ?_ | refine zJ rfl rfl ?_|refine jr rfl ?_|refine jn ?_|refine zM rfl rfl ?_|(refine zC rfl rfl ?_ rfl ?_;omega)|(refine zD rfl rfl ?_ rfl ?_;omega)|(refine zP rfl ?_ rfl ?_;omega)|refine zG rfl rfl rfl rfl ?_|(refine jdq rfl rfl ?_ ?_ ?_;kernel_rfl;kernel_rfl)|refine zB rfl rfl rfl (by repeat constructor) rfl ?_ | refine oS (ev_load rfl rfl (Rdb.ofB (n := 0) .here rfl)) rfl ?_ | refine oS (ev_load rfl rfl (Rdb.ofB (n := 0) (.there .here) rfl)) rfl ?_ | refine oS (ev_load rfl rfl (Rdb.ofB (n := 0) (.there (.there .here)) rfl)) rfl ?_) 
        refine oS (ev_indexAddr_arr (i := 7) rfl rfl rfl (by decide)) rfl ?_ 
        repeat (first | refine jc rfl rfl ?_ | refine jr rfl ?_ | refine jn ?_ | refine oM rfl rfl ?_ | refine oS (eu rfl rfl rfl) rfl ?_ | refine oS (eus rfl rfl (by decide)) rfl ?_ | refine oS (eun rfl) rfl ?_ | refine oS (ev_indexAddr_arr (i := 0) rfl rfl rfl (by decide)) rfl ?_ | refine oS (ev_indexAddr_arr (i := 1) rfl rfl rfl (by decide)) rfl ?_ | refine oS (ev_indexAddr_arr (i := 2) rfl rfl rfl (by decide)) rfl ?_ | refine oS (ev_indexAddr_arr (i := 3) rfl rfl rfl (by decide)) rfl ?_ | refine zJ rfl rfl ?_|refine jr rfl ?_|refine jn ?_|refine zM rfl rfl ?_|(refine zC rfl rfl ?_ rfl ?_;omega)|(refine zD rfl rfl ?_ rfl ?_;omega)|(refine zP rfl ?_ rfl ?_;omega)|refine zG rfl rfl rfl rfl ?_|(refine jdq rfl rfl ?_ ?_ ?_;kernel_rfl;kernel_rfl)|refine zB rfl rfl rfl (by repeat constructor) rfl ?_ | refine oS (ev_load rfl rfl (Rdb.ofB (n := 0) .here rfl)) rfl ?_ | refine oS (ev_load rfl rfl (Rdb.ofB (n := 0) (.there .here) rfl)) rfl ?_ | refine oS (ev_load rfl rfl (Rdb.ofB (n := 0) (.there (.there .here)) rfl)) rfl ?_) 
        refine oS (ev_indexAddr_arr (i := 7) rfl rfl rfl (by decide)) rfl ?_ 
        refine jn ?_ 
        refine jL rfl ?_ 
        refine oN (ev_store (b := b2) (off := 0 + 7 * 1) rfl rfl .int rfl rfl (lay_w (L := (mixL s r 3).set 3 _) (i := 7) (show 7 < 8 by decide)) (ones_cons rfl ones_nil) .here) rfl ?_ 
        rintro _ _ _ _ ⟨rfl, _, rfl⟩ 
        repeat (first | refine jc rfl rfl ?_ | refine jr rfl ?_ | refine jn ?_ | refine oM rfl rfl ?_ | refine oS (eu rfl rfl rfl) rfl ?_ | refine oS (eus rfl rfl (by decide)) rfl ?_ | refine oS (eun rfl) rfl ?_ | refine oS (ev_indexAddr_arr (i := 0) rfl rfl rfl (by decide)) rfl ?_ | refine oS (ev_indexAddr_arr (i := 1) rfl rfl rfl (by decide)) rfl ?_ | refine oS (ev_indexAddr_arr (i := 2) rfl rfl rfl (by decide)) rfl ?_ | refine oS (ev_indexAddr_arr (i := 3) rfl rfl rfl (by decide)) rfl ?_ | refine zJ rfl rfl ?_|refine jr rfl ?_|refine jn ?_|refine zM rfl rfl ?_|(refine zC rfl rfl ?_ rfl ?_;omega)|(refine zD rfl rfl ?_ rfl ?_;omega)|(refine zP rfl ?_ rfl ?_;omega)|refine zG rfl rfl rfl rfl ?_|(refine jdq rfl rfl ?_ ?_ ?_;kernel_rfl;kernel_rfl)|refine zB rfl rfl rfl (by repeat constructor) rfl ?_ | refine oS (ev_load rfl rfl (Rdb.ofB (n := 0) .here rfl)) rfl ?_ | refine oS (ev_load rfl rfl (Rdb.ofB (n := 0) (.there .here) rfl)) rfl ?_ | refine oS (ev_load rfl rfl (Rdb.ofB (n := 0) (.there (.there .here)) rfl)) rfl ?_) 
        refine J_again (3 + 1) (by decide) (by decide) ⟨⟨rfl, rfl, rfl, rfl, rfl, trivial⟩, fun w s => ?_⟩ 
        refine cast (congrArg (fun L => Sat F2 (blk b2 116 (w32s L) :: _) w) ?_) s 
        simp [mixL]
    · obtain rfl : i = 4 := by omega
      have e : w32s (mixL s r 4) = w32s (s.add r).l := by simp [mixL, S8.add, S8.l]
      rw [e]
      repeat (first|refine zJ rfl rfl ?_|refine jr rfl ?_|refine jn ?_|refine zM rfl rfl ?_|(refine zC rfl rfl ?_ rfl ?_;omega)|(refine zD rfl rfl ?_ rfl ?_;omega)|(refine zP rfl ?_ rfl ?_;omega)|refine zG rfl rfl rfl rfl ?_|(refine jdq rfl rfl ?_ ?_ ?_;kernel_rfl;kernel_rfl)|refine zB rfl rfl rfl (by repeat constructor) rfl ?_)
      refine oS (ev_load_agg (cs := w32s (s.add r).l) rfl rfl (Rdb.ofB (n := 0) .here (by rw [List.drop_zero, List.take_length])) rfl) rfl ?_
      refine oN (ev_store (b := b4) rfl rfl .agg rfl rfl (lay_8 (s.add r).l rfl) (w32s_ones _) (.there (.there (.there .here)))) rfl ?_
      rintro _ _ _ _ ⟨rfl, _, rfl⟩
      repeat (first|refine zJ rfl rfl ?_|refine jr rfl ?_|refine jn ?_|refine zM rfl rfl ?_|(refine zC rfl rfl ?_ rfl ?_;omega)|(refine zD rfl rfl ?_ rfl ?_;omega)|(refine zP rfl ?_ rfl ?_;omega)|refine zG rfl rfl rfl rfl ?_|(refine jdq rfl rfl ?_ ?_ ?_;kernel_rfl;kernel_rfl)|refine zB rfl rfl rfl (by repeat constructor) rfl ?_)
      exact J_retv (vs := [.agg (w32s (s.add r).l).toArray]) rfl (.agg rfl rfl (Rdb.ofB (n := 0) (.there (.there (.there .here))) (by rw [List.drop_zero, List.take_length])) rfl .nil) [] (fun w s => s.drop.drop.drop.drop) (hle6.trans hle5) ⟨rfl, rfl⟩
end Go.Proofs.Ytohlmhoacjodjaa
