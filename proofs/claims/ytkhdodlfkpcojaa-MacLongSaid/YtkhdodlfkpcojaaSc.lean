/-
  The schedule of a block of 64 bytes. Conditions are typed with each.
-/
import Derived.Test.YtkhdodlfkpcojaaSb
namespace Go.Proofs.Ytkhdodlfkpcojaa
open Go.RowKit
/-- A word of a block, the highest byte first. -/
def wordB (b : List UInt8) (i : Nat) : W := BitVec.ofNat 32 (numB ((b.drop (4 * i)).take 4))
def nextW (b : List UInt8) (l : List W) (i : Nat) : W :=
  if i < 16 then wordB b i else l.getD (i - 16) 0 + (rot 7 (l.getD (i - 15) 0) ^^^ rot 18 (l.getD (i - 15) 0) ^^^ l.getD (i - 15) 0 >>> 3) + l.getD (i - 7) 0 + (rot 17 (l.getD (i - 2) 0) ^^^ rot 19 (l.getD (i - 2) 0) ^^^ l.getD (i - 2) 0 >>> 10)
def sch (b : List UInt8) : Nat → List W
  | 0 => []
  | i + 1 => sch b i ++ [nextW b (sch b i) i]
theorem sch_succ (b : List UInt8) (i : Nat) : sch b (i + 1) = sch b i ++ [nextW b (sch b i) i] := rfl
theorem sch_len (b : List UInt8) (i : Nat) : (sch b i).length = i := by
  induction i with
  | zero => rfl
  | succ i ih => rw [sch_succ]; simp [ih]
def schC (b : List UInt8) (i : Nat) : List Value := w32s (sch b i) ++ List.replicate (64 - i) (.int .u32 0)
theorem schC_len (b : List UInt8) {i : Nat} (h : i ≤ 64) : (schC b i).length = 64 := by
  unfold schC; rw [List.length_append, w32s_len, sch_len]; simp; omega
theorem schC_set (b : List UInt8) {i : Nat} (h : i < 64) : (schC b i).set i (w32 (nextW b (sch b i) i)) = schC b (i + 1) := by
  have h1 : (w32s (sch b i)).length = i := by rw [w32s_len, sch_len]
  unfold schC
  rw [List.set_append_right _ _ (by omega), h1, Nat.sub_self, show 64 - i = (64 - (i + 1)) + 1 from by omega, List.replicate_succ, List.set_cons_zero, sch_succ]
  simp [w32s]
theorem schC_lay (b : List UInt8) {i : Nat} {v : W} (h : i < 64) (hv : nextW b (sch b i) i = v) : Lay (0 + i * 1) [w32 v] (schC b i) (schC b (i + 1)) := by
  rw [Nat.zero_add, Nat.mul_one, ← schC_set b h, hv]
  exact lay_set _ (by rw [schC_len b (by omega)]; exact h)
theorem words_at {l : List W} {rest : List Value} {j : Nat} (h : j < l.length) : ((w32s l ++ rest).drop (0 + j * 1)).take 1 = [w32 (l.getD j 0)] := by
  have h1 : (w32s l ++ rest)[j]? = some (w32 (l.getD j 0)) := by
    rw [List.getElem?_append_left (by rw [w32s_len]; exact h)]
    simp [w32s, h, List.getD_eq_getElem?_getD]
  rw [Nat.zero_add, Nat.mul_one, List.drop_eq_getElem_cons (by simp [w32s]; omega)]
  rw [List.getElem?_eq_some_iff] at h1
  obtain ⟨h2, h3⟩ := h1
  rw [h3]
  rfl
theorem words_at' {l : List W} {r : List Value} {j : Nat} (h : j < l.length) (hr : r.take l.length = w32s l) : (r.drop (0 + j * 1)).take 1 = [w32 (l.getD j 0)] := by
  have e : r = w32s l ++ r.drop l.length := by rw [← hr, List.take_append_drop]
  rw [e]
  exact words_at h
theorem schC_take (b : List UInt8) {i k : Nat} (hik : i ≤ k) : (schC b k).take i = w32s (sch b i) := by
  have h1 : ∀ m, (sch b (i + m)).take i = sch b i := by
    intro m
    induction m with
    | zero => rw [Nat.add_zero, List.take_of_length_le (by rw [sch_len]; exact Nat.le_refl _)]
    | succ m ih => rw [← Nat.add_assoc, sch_succ, List.take_append_of_le_length (by rw [sch_len]; omega), ih]
  unfold schC
  rw [List.take_append_of_le_length (by rw [w32s_len, sch_len]; exact hik)]
  have := h1 (k - i)
  rw [show i + (k - i) = k from by omega] at this
  unfold w32s
  rw [← List.map_take, this]
theorem schC_at (b : List UInt8) {i j : Nat} (h : j < i) : ((schC b i).drop (0 + j * 1)).take 1 = [w32 ((sch b i).getD j 0)] := words_at (by rw [sch_len]; exact h)
/-- Block b, of which something is known. -/
def blkP (b : Nat) (E : TypeId) (p : List Value → Prop) : Asrt := fun h => ∃ r, p r ∧ blk b E r h
theorem Sat.blkP {F : PH} {H : List Asrt} {b E : Nat} {r : List Value} {p : List Value → Prop} {w : World} (s : Sat F (blk b E r :: H) w) (h : p r) : Sat F [Go.Proofs.Ytkhdodlfkpcojaa.blkP b E p] w := (s.turn fun _ hA => ⟨r, h, hA⟩).head
theorem Rdb.ofP {F : PH} {b E off : Nat} {p : List Value → Prop} {cs : List Value} (h : ∀ r, p r → (r.drop off).take cs.length = cs) : Rdb F [blkP b E p] b off cs := fun w s => by
  obtain ⟨r, hr, hd, hl⟩ := s
  obtain ⟨h1, h2, ⟨r', hp, hb⟩, rfl, hdj, rfl⟩ := hr
  exact Rdb.ofB (F := F) (H := [blk b E r']) (Hr := []) (n := 0) .here (h r' hp) w ⟨_, ⟨h1, PH.emp, hb, rfl, hdj, rfl⟩, hd, hl⟩
theorem cut_at {b off c lo n : Nat} (h : lo < n) (hc : n ≤ c) : cutV (some ⟨b, off, none⟩) 1 c lo n c = .slice (some ⟨b, off + lo, none⟩) (n - lo) (c - lo) := by
  unfold cutV
  rw [if_neg (by omega)]
  simp [adr_add]
theorem four_bytes {c0 c1 c2 c3 : UInt8} : ((BitVec.ofNat 32 c0.toNat <<< 24 ||| BitVec.ofNat 32 c1.toNat <<< 16) ||| BitVec.ofNat 32 c2.toNat <<< 8) ||| BitVec.ofNat 32 c3.toNat = BitVec.ofNat 32 (numB [c0, c1, c2, c3]) := by
  have h0 := c0.toNat_lt
  have h1 := c1.toNat_lt
  have h2 := c2.toNat_lt
  have h3 := c3.toNat_lt
  apply BitVec.eq_of_toNat_eq
  have e : numB [c0, c1, c2, c3] = ((c0.toNat * 256 + c1.toNat) * 256 + c2.toNat) * 256 + c3.toNat := by simp [numB]
  rw [e]
  simp only [BitVec.toNat_or, BitVec.toNat_shiftLeft, BitVec.toNat_ofNat, Nat.shiftLeft_eq]
  generalize c0.toNat = a at *
  generalize c1.toNat = b at *
  generalize c2.toNat = c at *
  generalize c3.toNat = d at *
  simp only [Nat.reducePow]
  clear e
  have e0 : a % 4294967296 * 16777216 % 4294967296 = 16777216 * a := by rw [Nat.mod_eq_of_lt (by omega), Nat.mul_comm, Nat.mod_eq_of_lt (by omega)]
  have e1 : b % 4294967296 * 65536 % 4294967296 = 65536 * b := by rw [Nat.mod_eq_of_lt (by omega), Nat.mul_comm, Nat.mod_eq_of_lt (by omega)]
  have e2 : c % 4294967296 * 256 % 4294967296 = 256 * c := by rw [Nat.mod_eq_of_lt (by omega), Nat.mul_comm, Nat.mod_eq_of_lt (by omega)]
  have e3 : d % 4294967296 = d := by omega
  have o1 : 16777216 * a + 65536 * b = 16777216 * a ||| 65536 * b := Nat.two_pow_add_eq_or_of_lt (i := 24) (show 65536 * b < 16777216 by omega) a
  have o2 : 65536 * (256 * a + b) + 256 * c = 65536 * (256 * a + b) ||| 256 * c := Nat.two_pow_add_eq_or_of_lt (i := 16) (show 256 * c < 65536 by omega) (256 * a + b)
  have o3 : 256 * (256 * (256 * a + b) + c) + d = 256 * (256 * (256 * a + b) + c) ||| d := Nat.two_pow_add_eq_or_of_lt (i := 8) (show d < 256 by omega) (256 * (256 * a + b) + c)
  rw [e0, e1, e2, e3, ← o1, show 16777216 * a + 65536 * b = 65536 * (256 * a + b) from by omega, ← o2,
    show 65536 * (256 * a + b) + 256 * c = 256 * (256 * (256 * a + b) + c) from by omega, ← o3]
  omega
theorem take_four {bs : List UInt8} {j : Nat} (h : j + 4 ≤ bs.length) : (bs.drop j).take 4 = [bs[j], bs[j + 1], bs[j + 2], bs[j + 3]] := by
  rw [List.drop_eq_getElem_cons (by omega), List.drop_eq_getElem_cons (by omega), List.drop_eq_getElem_cons (by omega), List.drop_eq_getElem_cons (by omega)]
  rfl
set_option maxHeartbeats 16000000 in
theorem schedule_spec (a : Option Addr) (c : Nat) (bs : List UInt8) (F : PH) (h : Byt F (.slice a bs.length c) bs) (hc : bs.length ≤ c) (h64 : 64 ≤ bs.length) (hl : bs.length ≤ 1099511627776) :
    Pure Try.prog 33 [.slice a bs.length c] F (.agg (w32s (sch bs 64)).toArray) := by
  obtain ⟨b, off, rfl, _⟩ := h.at (j := 0) (by omega)
  refine Spec.of1 Try.func33 rfl rfl fun X w0 => ?_
  refine jc rfl rfl ?_
  refine jr rfl ?_
  refine oE (ev_alloc (cs := z64) rfl) rfl ?_
  rintro _ _ _ _ ⟨rfl, b2, rfl, rfl⟩
  refine jn ?_
  refine jc rfl rfl ?_
  refine jr rfl ?_
  refine oE (ev_alloc (cs := z64) rfl) rfl ?_
  rintro _ _ _ _ ⟨rfl, b3, rfl, rfl⟩
  repeat (first | refine jc rfl rfl ?_ | refine jr rfl ?_ | refine jn ?_ | refine oM rfl rfl ?_ | refine oS (ev_pv rfl) rfl ?_ | refine oX rfl ?_ | refine J_cond_t rfl ?_ | refine J_cond_f rfl ?_ | refine oS (eb rfl) rfl ?_ | (refine oS (ev_cmp_t rfl rfl ?_) rfl ?_; (dsimp only [cmpP] <;> omega)) | (refine oS (ev_cmp_f rfl rfl ?_) rfl ?_; (dsimp only [cmpN] <;> omega)) | (refine oS (ea rfl rfl rfl ?_) rfl ?_; (dsimp only [InK]; first | omega | exact ⟨Int.natCast_nonneg _, by omega⟩)) | (refine oS (ed rfl rfl rfl ?_ ?_ ?_) rfl ?_; (first | omega | exact Int.natCast_nonneg _); (first | omega | exact Int.natCast_nonneg _); (dsimp only [InK]; first | omega | exact ⟨Int.natCast_nonneg _, by omega⟩)) | refine oS (ev_fieldAddr rfl rfl) rfl ?_ | (refine oS (ev_conv rfl rfl rfl (wrap_in ?_)) rfl ?_; (dsimp only [InK]; first | omega | exact ⟨Int.natCast_nonneg _, by omega⟩)) | refine oS (ev_bool_eql rfl rfl rfl) rfl ?_ | refine oS (eg rfl rfl rfl) rfl ?_ | (refine jdq rfl rfl ?_ ?_ ?_; kernel_rfl; kernel_rfl) | (refine oS (ev_build (t := ?_) rfl rfl rfl ?_) rfl ?_; rotate_left; (repeat (first | exact FillF.nil | refine FillF.cons (by constructor) rfl rfl (by repeat constructor) ?_))) | refine oS (ev_ptr_eql_nil rfl rfl rfl) rfl ?_)
  refine J_loop (ι := Nat) (fun i => i ≤ 16) (fun i => 16 - i) (fun i => [(0, .slice (some ⟨b, off, none⟩) bs.length c), (2, .pointer (some ⟨b2, 0, none⟩)), (3, .pointer (some ⟨b3, 0, none⟩)), (9, .int .i64 i)]) (fun _ => F)
    (fun i => blk b3 59 (schC bs i) :: blk b2 59 z64 :: X) 0 (Nat.zero_le _) ⟨⟨rfl, rfl, rfl, rfl, trivial⟩, fun _ s => s⟩ ?_
  intro i hi
  by_cases hlt : i < 16
  · have cell : ∀ j, (hj : 4 * i + j < bs.length) → Cells F b (off + 4 * i + j * 1) [.int .u8 (bs[4 * i + j].toNat : Int)] := fun j hj => by
      obtain ⟨b', off', e, hh⟩ := h.at hj
      cases e
      rwa [show off + 4 * i + j * 1 = off + (4 * i + j) * 1 from by omega]
    have c0 := cell 0 (by omega)
    have c1 := cell 1 (by omega)
    have c2 := cell 2 (by omega)
    have c3 := cell 3 (by omega)
    have hw : nextW bs (sch bs i) i = ((BitVec.ofNat 32 bs[4 * i + 0].toNat <<< 24 ||| BitVec.ofNat 32 bs[4 * i + 1].toNat <<< 16) ||| BitVec.ofNat 32 bs[4 * i + 2].toNat <<< 8) ||| BitVec.ofNat 32 bs[4 * i + 3].toNat := by
      rw [four_bytes]
      unfold nextW wordB
      rw [if_pos hlt, take_four (by omega)]
      rfl
    repeat (first | refine jc rfl rfl ?_ | refine jr rfl ?_ | refine jn ?_ | refine oM rfl rfl ?_ | refine oS (ev_pv rfl) rfl ?_ | refine oX rfl ?_ | refine J_cond_t rfl ?_ | refine J_cond_f rfl ?_ | refine oS (eb rfl) rfl ?_ | (refine oS (ev_cmp_t rfl rfl ?_) rfl ?_; (dsimp only [cmpP] <;> omega)) | (refine oS (ev_cmp_f rfl rfl ?_) rfl ?_; (dsimp only [cmpN] <;> omega)) | (refine oS (ea rfl rfl rfl ?_) rfl ?_; (dsimp only [InK]; first | omega | exact ⟨Int.natCast_nonneg _, by omega⟩)) | (refine oS (ed rfl rfl rfl ?_ ?_ ?_) rfl ?_; (first | omega | exact Int.natCast_nonneg _); (first | omega | exact Int.natCast_nonneg _); (dsimp only [InK]; first | omega | exact ⟨Int.natCast_nonneg _, by omega⟩)) | refine oS (ev_fieldAddr rfl rfl) rfl ?_ | (refine oS (ev_conv rfl rfl rfl (wrap_in ?_)) rfl ?_; (dsimp only [InK]; first | omega | exact ⟨Int.natCast_nonneg _, by omega⟩)) | refine oS (ev_bool_eql rfl rfl rfl) rfl ?_ | refine oS (eg rfl rfl rfl) rfl ?_ | (refine jdq rfl rfl ?_ ?_ ?_; kernel_rfl; kernel_rfl) | (refine oS (ev_build (t := ?_) rfl rfl rfl ?_) rfl ?_; rotate_left; (repeat (first | exact FillF.nil | refine FillF.cons (by constructor) rfl rfl (by repeat constructor) ?_))) | refine oS (ev_ptr_eql_nil rfl rfl rfl) rfl ?_)
    rw [show (4 : Int) * (i : Int) = ((4 * i : Nat) : Int) from by omega]
    refine oS (ev_slice_lo (lo := 4 * i) rfl rfl rfl (by omega)) rfl ?_
    rw [cut_at (by omega) hc]
    repeat (first | refine jc rfl rfl ?_ | refine jr rfl ?_ | refine jn ?_ | refine oM rfl rfl ?_ | refine oS (ev_pv rfl) rfl ?_ | refine oX rfl ?_ | refine J_cond_t rfl ?_ | refine J_cond_f rfl ?_ | refine oS (eb rfl) rfl ?_ | (refine oS (ev_cmp_t rfl rfl ?_) rfl ?_; (dsimp only [cmpP] <;> omega)) | (refine oS (ev_cmp_f rfl rfl ?_) rfl ?_; (dsimp only [cmpN] <;> omega)) | (refine oS (ea rfl rfl rfl ?_) rfl ?_; (dsimp only [InK]; first | omega | exact ⟨Int.natCast_nonneg _, by omega⟩)) | (refine oS (ed rfl rfl rfl ?_ ?_ ?_) rfl ?_; (first | omega | exact Int.natCast_nonneg _); (first | omega | exact Int.natCast_nonneg _); (dsimp only [InK]; first | omega | exact ⟨Int.natCast_nonneg _, by omega⟩)) | refine oS (ev_fieldAddr rfl rfl) rfl ?_ | (refine oS (ev_conv rfl rfl rfl (wrap_in ?_)) rfl ?_; (dsimp only [InK]; first | omega | exact ⟨Int.natCast_nonneg _, by omega⟩)) | refine oS (ev_bool_eql rfl rfl rfl) rfl ?_ | refine oS (eg rfl rfl rfl) rfl ?_ | (refine jdq rfl rfl ?_ ?_ ?_; kernel_rfl; kernel_rfl) | (refine oS (ev_build (t := ?_) rfl rfl rfl ?_) rfl ?_; rotate_left; (repeat (first | exact FillF.nil | refine FillF.cons (by constructor) rfl rfl (by repeat constructor) ?_))) | refine oS (ev_ptr_eql_nil rfl rfl rfl) rfl ?_)
    refine ja F [] ?_ ?_ ?_; kernel_rfl
    · exact fun w s => s.bare
    refine aT 0 rfl (ev_pv rfl) rfl rfl ?_ ?_ ?_ ?_; kernel_rfl; kernel_rfl; kernel_rfl
    refine aT 1 rfl (ev_pv rfl) rfl rfl ?_ ?_ ?_ ?_; kernel_rfl; kernel_rfl; kernel_rfl
    refine aT 2 rfl (ev_indexAddr (i := 0) rfl rfl rfl (by omega)) rfl rfl ?_ ?_ ?_ ?_; kernel_rfl; kernel_rfl; kernel_rfl
    refine aT 3 rfl (ev_load rfl rfl (Rdb.ofF c0)) rfl rfl ?_ ?_ ?_ ?_; kernel_rfl; kernel_rfl; kernel_rfl
    (first | refine aT 4 rfl (ev_pv rfl) rfl rfl ?_ ?_ ?_ ?_ | refine aT 4 rfl (eu rfl rfl rfl) rfl rfl ?_ ?_ ?_ ?_ | refine aT 4 rfl (ewc rfl rfl rfl) rfl rfl ?_ ?_ ?_ ?_ | refine aT 4 rfl (eusl rfl rfl (by decide)) rfl rfl ?_ ?_ ?_ ?_ | refine aT 4 rfl (eus rfl rfl (by decide)) rfl rfl ?_ ?_ ?_ ?_ | refine aT 4 rfl (eun rfl) rfl rfl ?_ ?_ ?_ ?_ | (refine aT 4 rfl (ea rfl rfl rfl ?_) rfl rfl ?_ ?_ ?_ ?_; (dsimp only [InK]; first | omega | exact ⟨Int.natCast_nonneg _, by omega⟩))); kernel_rfl; kernel_rfl; kernel_rfl
    (first | refine aT 5 rfl (ev_pv rfl) rfl rfl ?_ ?_ ?_ ?_ | refine aT 5 rfl (eu rfl rfl rfl) rfl rfl ?_ ?_ ?_ ?_ | refine aT 5 rfl (ewc rfl rfl rfl) rfl rfl ?_ ?_ ?_ ?_ | refine aT 5 rfl (eusl rfl rfl (by decide)) rfl rfl ?_ ?_ ?_ ?_ | refine aT 5 rfl (eus rfl rfl (by decide)) rfl rfl ?_ ?_ ?_ ?_ | refine aT 5 rfl (eun rfl) rfl rfl ?_ ?_ ?_ ?_ | (refine aT 5 rfl (ea rfl rfl rfl ?_) rfl rfl ?_ ?_ ?_ ?_; (dsimp only [InK]; first | omega | exact ⟨Int.natCast_nonneg _, by omega⟩))); kernel_rfl; kernel_rfl; kernel_rfl
    (first | refine aT 6 rfl (ev_pv rfl) rfl rfl ?_ ?_ ?_ ?_ | refine aT 6 rfl (eu rfl rfl rfl) rfl rfl ?_ ?_ ?_ ?_ | refine aT 6 rfl (ewc rfl rfl rfl) rfl rfl ?_ ?_ ?_ ?_ | refine aT 6 rfl (eusl rfl rfl (by decide)) rfl rfl ?_ ?_ ?_ ?_ | refine aT 6 rfl (eus rfl rfl (by decide)) rfl rfl ?_ ?_ ?_ ?_ | refine aT 6 rfl (eun rfl) rfl rfl ?_ ?_ ?_ ?_ | (refine aT 6 rfl (ea rfl rfl rfl ?_) rfl rfl ?_ ?_ ?_ ?_; (dsimp only [InK]; first | omega | exact ⟨Int.natCast_nonneg _, by omega⟩))); kernel_rfl; kernel_rfl; kernel_rfl
    refine aT 7 rfl (ev_indexAddr (i := 1) rfl rfl rfl (by omega)) rfl rfl ?_ ?_ ?_ ?_; kernel_rfl; kernel_rfl; kernel_rfl
    refine aT 8 rfl (ev_load rfl rfl (Rdb.ofF c1)) rfl rfl ?_ ?_ ?_ ?_; kernel_rfl; kernel_rfl; kernel_rfl
    (first | refine aT 9 rfl (ev_pv rfl) rfl rfl ?_ ?_ ?_ ?_ | refine aT 9 rfl (eu rfl rfl rfl) rfl rfl ?_ ?_ ?_ ?_ | refine aT 9 rfl (ewc rfl rfl rfl) rfl rfl ?_ ?_ ?_ ?_ | refine aT 9 rfl (eusl rfl rfl (by decide)) rfl rfl ?_ ?_ ?_ ?_ | refine aT 9 rfl (eus rfl rfl (by decide)) rfl rfl ?_ ?_ ?_ ?_ | refine aT 9 rfl (eun rfl) rfl rfl ?_ ?_ ?_ ?_ | (refine aT 9 rfl (ea rfl rfl rfl ?_) rfl rfl ?_ ?_ ?_ ?_; (dsimp only [InK]; first | omega | exact ⟨Int.natCast_nonneg _, by omega⟩))); kernel_rfl; kernel_rfl; kernel_rfl
    (first | refine aT 10 rfl (ev_pv rfl) rfl rfl ?_ ?_ ?_ ?_ | refine aT 10 rfl (eu rfl rfl rfl) rfl rfl ?_ ?_ ?_ ?_ | refine aT 10 rfl (ewc rfl rfl rfl) rfl rfl ?_ ?_ ?_ ?_ | refine aT 10 rfl (eusl rfl rfl (by decide)) rfl rfl ?_ ?_ ?_ ?_ | refine aT 10 rfl (eus rfl rfl (by decide)) rfl rfl ?_ ?_ ?_ ?_ | refine aT 10 rfl (eun rfl) rfl rfl ?_ ?_ ?_ ?_ | (refine aT 10 rfl (ea rfl rfl rfl ?_) rfl rfl ?_ ?_ ?_ ?_; (dsimp only [InK]; first | omega | exact ⟨Int.natCast_nonneg _, by omega⟩))); kernel_rfl; kernel_rfl; kernel_rfl
    (first | refine aT 11 rfl (ev_pv rfl) rfl rfl ?_ ?_ ?_ ?_ | refine aT 11 rfl (eu rfl rfl rfl) rfl rfl ?_ ?_ ?_ ?_ | refine aT 11 rfl (ewc rfl rfl rfl) rfl rfl ?_ ?_ ?_ ?_ | refine aT 11 rfl (eusl rfl rfl (by decide)) rfl rfl ?_ ?_ ?_ ?_ | refine aT 11 rfl (eus rfl rfl (by decide)) rfl rfl ?_ ?_ ?_ ?_ | refine aT 11 rfl (eun rfl) rfl rfl ?_ ?_ ?_ ?_ | (refine aT 11 rfl (ea rfl rfl rfl ?_) rfl rfl ?_ ?_ ?_ ?_; (dsimp only [InK]; first | omega | exact ⟨Int.natCast_nonneg _, by omega⟩))); kernel_rfl; kernel_rfl; kernel_rfl
    (first | refine aT 12 rfl (ev_pv rfl) rfl rfl ?_ ?_ ?_ ?_ | refine aT 12 rfl (eu rfl rfl rfl) rfl rfl ?_ ?_ ?_ ?_ | refine aT 12 rfl (ewc rfl rfl rfl) rfl rfl ?_ ?_ ?_ ?_ | refine aT 12 rfl (eusl rfl rfl (by decide)) rfl rfl ?_ ?_ ?_ ?_ | refine aT 12 rfl (eus rfl rfl (by decide)) rfl rfl ?_ ?_ ?_ ?_ | refine aT 12 rfl (eun rfl) rfl rfl ?_ ?_ ?_ ?_ | (refine aT 12 rfl (ea rfl rfl rfl ?_) rfl rfl ?_ ?_ ?_ ?_; (dsimp only [InK]; first | omega | exact ⟨Int.natCast_nonneg _, by omega⟩))); kernel_rfl; kernel_rfl; kernel_rfl
    refine aT 13 rfl (ev_indexAddr (i := 2) rfl rfl rfl (by omega)) rfl rfl ?_ ?_ ?_ ?_; kernel_rfl; kernel_rfl; kernel_rfl
    refine aT 14 rfl (ev_load rfl rfl (Rdb.ofF c2)) rfl rfl ?_ ?_ ?_ ?_; kernel_rfl; kernel_rfl; kernel_rfl
    (first | refine aT 15 rfl (ev_pv rfl) rfl rfl ?_ ?_ ?_ ?_ | refine aT 15 rfl (eu rfl rfl rfl) rfl rfl ?_ ?_ ?_ ?_ | refine aT 15 rfl (ewc rfl rfl rfl) rfl rfl ?_ ?_ ?_ ?_ | refine aT 15 rfl (eusl rfl rfl (by decide)) rfl rfl ?_ ?_ ?_ ?_ | refine aT 15 rfl (eus rfl rfl (by decide)) rfl rfl ?_ ?_ ?_ ?_ | refine aT 15 rfl (eun rfl) rfl rfl ?_ ?_ ?_ ?_ | (refine aT 15 rfl (ea rfl rfl rfl ?_) rfl rfl ?_ ?_ ?_ ?_; (dsimp only [InK]; first | omega | exact ⟨Int.natCast_nonneg _, by omega⟩))); kernel_rfl; kernel_rfl; kernel_rfl
    (first | refine aT 16 rfl (ev_pv rfl) rfl rfl ?_ ?_ ?_ ?_ | refine aT 16 rfl (eu rfl rfl rfl) rfl rfl ?_ ?_ ?_ ?_ | refine aT 16 rfl (ewc rfl rfl rfl) rfl rfl ?_ ?_ ?_ ?_ | refine aT 16 rfl (eusl rfl rfl (by decide)) rfl rfl ?_ ?_ ?_ ?_ | refine aT 16 rfl (eus rfl rfl (by decide)) rfl rfl ?_ ?_ ?_ ?_ | refine aT 16 rfl (eun rfl) rfl rfl ?_ ?_ ?_ ?_ | (refine aT 16 rfl (ea rfl rfl rfl ?_) rfl rfl ?_ ?_ ?_ ?_; (dsimp only [InK]; first | omega | exact ⟨Int.natCast_nonneg _, by omega⟩))); kernel_rfl; kernel_rfl; kernel_rfl
    (first | refine aT 17 rfl (ev_pv rfl) rfl rfl ?_ ?_ ?_ ?_ | refine aT 17 rfl (eu rfl rfl rfl) rfl rfl ?_ ?_ ?_ ?_ | refine aT 17 rfl (ewc rfl rfl rfl) rfl rfl ?_ ?_ ?_ ?_ | refine aT 17 rfl (eusl rfl rfl (by decide)) rfl rfl ?_ ?_ ?_ ?_ | refine aT 17 rfl (eus rfl rfl (by decide)) rfl rfl ?_ ?_ ?_ ?_ | refine aT 17 rfl (eun rfl) rfl rfl ?_ ?_ ?_ ?_ | (refine aT 17 rfl (ea rfl rfl rfl ?_) rfl rfl ?_ ?_ ?_ ?_; (dsimp only [InK]; first | omega | exact ⟨Int.natCast_nonneg _, by omega⟩))); kernel_rfl; kernel_rfl; kernel_rfl
    (first | refine aT 18 rfl (ev_pv rfl) rfl rfl ?_ ?_ ?_ ?_ | refine aT 18 rfl (eu rfl rfl rfl) rfl rfl ?_ ?_ ?_ ?_ | refine aT 18 rfl (ewc rfl rfl rfl) rfl rfl ?_ ?_ ?_ ?_ | refine aT 18 rfl (eusl rfl rfl (by decide)) rfl rfl ?_ ?_ ?_ ?_ | refine aT 18 rfl (eus rfl rfl (by decide)) rfl rfl ?_ ?_ ?_ ?_ | refine aT 18 rfl (eun rfl) rfl rfl ?_ ?_ ?_ ?_ | (refine aT 18 rfl (ea rfl rfl rfl ?_) rfl rfl ?_ ?_ ?_ ?_; (dsimp only [InK]; first | omega | exact ⟨Int.natCast_nonneg _, by omega⟩))); kernel_rfl; kernel_rfl; kernel_rfl
    refine aT 19 rfl (ev_indexAddr (i := 3) rfl rfl rfl (by omega)) rfl rfl ?_ ?_ ?_ ?_; kernel_rfl; kernel_rfl; kernel_rfl
    refine aT 20 rfl (ev_load rfl rfl (Rdb.ofF c3)) rfl rfl ?_ ?_ ?_ ?_; kernel_rfl; kernel_rfl; kernel_rfl
    (first | refine aT 21 rfl (ev_pv rfl) rfl rfl ?_ ?_ ?_ ?_ | refine aT 21 rfl (eu rfl rfl rfl) rfl rfl ?_ ?_ ?_ ?_ | refine aT 21 rfl (ewc rfl rfl rfl) rfl rfl ?_ ?_ ?_ ?_ | refine aT 21 rfl (eusl rfl rfl (by decide)) rfl rfl ?_ ?_ ?_ ?_ | refine aT 21 rfl (eus rfl rfl (by decide)) rfl rfl ?_ ?_ ?_ ?_ | refine aT 21 rfl (eun rfl) rfl rfl ?_ ?_ ?_ ?_ | (refine aT 21 rfl (ea rfl rfl rfl ?_) rfl rfl ?_ ?_ ?_ ?_; (dsimp only [InK]; first | omega | exact ⟨Int.natCast_nonneg _, by omega⟩))); kernel_rfl; kernel_rfl; kernel_rfl
    (first | refine aT 22 rfl (ev_pv rfl) rfl rfl ?_ ?_ ?_ ?_ | refine aT 22 rfl (eu rfl rfl rfl) rfl rfl ?_ ?_ ?_ ?_ | refine aT 22 rfl (ewc rfl rfl rfl) rfl rfl ?_ ?_ ?_ ?_ | refine aT 22 rfl (eusl rfl rfl (by decide)) rfl rfl ?_ ?_ ?_ ?_ | refine aT 22 rfl (eus rfl rfl (by decide)) rfl rfl ?_ ?_ ?_ ?_ | refine aT 22 rfl (eun rfl) rfl rfl ?_ ?_ ?_ ?_ | (refine aT 22 rfl (ea rfl rfl rfl ?_) rfl rfl ?_ ?_ ?_ ?_; (dsimp only [InK]; first | omega | exact ⟨Int.natCast_nonneg _, by omega⟩))); kernel_rfl; kernel_rfl; kernel_rfl
    refine aT 23 rfl (ev_indexAddr_arr rfl rfl rfl (show i < 64 by omega)) rfl rfl ?_ ?_ ?_ ?_; kernel_rfl; kernel_rfl; kernel_rfl
    refine aB (i := 24) (by kernel_rfl) (aN rfl (ev_store (b := b3) (off := 0 + i * 1) rfl rfl .int rfl rfl (schC_lay bs (by omega) hw) (ones_cons rfl ones_nil) .here) rfl (fun _ _ _ _ ⟨e, _, _⟩ w s => by subst e; exact s.bare) ?_)
    rintro _ _ _ _ ⟨rfl, _, rfl⟩
    refine aD (by kernel_rfl) ?_
    repeat (first | refine jc rfl rfl ?_ | refine jr rfl ?_ | refine jn ?_ | refine oM rfl rfl ?_ | refine oS (ev_pv rfl) rfl ?_ | refine oX rfl ?_ | refine J_cond_t rfl ?_ | refine J_cond_f rfl ?_ | refine oS (eb rfl) rfl ?_ | (refine oS (ev_cmp_t rfl rfl ?_) rfl ?_; (dsimp only [cmpP] <;> omega)) | (refine oS (ev_cmp_f rfl rfl ?_) rfl ?_; (dsimp only [cmpN] <;> omega)) | (refine oS (ea rfl rfl rfl ?_) rfl ?_; (dsimp only [InK]; first | omega | exact ⟨Int.natCast_nonneg _, by omega⟩)) | (refine oS (ed rfl rfl rfl ?_ ?_ ?_) rfl ?_; (first | omega | exact Int.natCast_nonneg _); (first | omega | exact Int.natCast_nonneg _); (dsimp only [InK]; first | omega | exact ⟨Int.natCast_nonneg _, by omega⟩)) | refine oS (ev_fieldAddr rfl rfl) rfl ?_ | (refine oS (ev_conv rfl rfl rfl (wrap_in ?_)) rfl ?_; (dsimp only [InK]; first | omega | exact ⟨Int.natCast_nonneg _, by omega⟩)) | refine oS (ev_bool_eql rfl rfl rfl) rfl ?_ | refine oS (eg rfl rfl rfl) rfl ?_ | (refine jdq rfl rfl ?_ ?_ ?_; kernel_rfl; kernel_rfl) | (refine oS (ev_build (t := ?_) rfl rfl rfl ?_) rfl ?_; rotate_left; (repeat (first | exact FillF.nil | refine FillF.cons (by constructor) rfl rfl (by repeat constructor) ?_))) | refine oS (ev_ptr_eql_nil rfl rfl rfl) rfl ?_)
    refine J_again (i + 1) hlt (by omega) ⟨⟨rfl, rfl, rfl, rfl, trivial⟩, fun w s => ?_⟩
    exact s
  · obtain rfl : i = 16 := by omega
    repeat (first | refine jc rfl rfl ?_ | refine jr rfl ?_ | refine jn ?_ | refine oM rfl rfl ?_ | refine oS (ev_pv rfl) rfl ?_ | refine oX rfl ?_ | refine J_cond_t rfl ?_ | refine J_cond_f rfl ?_ | refine oS (eb rfl) rfl ?_ | (refine oS (ev_cmp_t rfl rfl ?_) rfl ?_; (dsimp only [cmpP] <;> omega)) | (refine oS (ev_cmp_f rfl rfl ?_) rfl ?_; (dsimp only [cmpN] <;> omega)) | (refine oS (ea rfl rfl rfl ?_) rfl ?_; (dsimp only [InK]; first | omega | exact ⟨Int.natCast_nonneg _, by omega⟩)) | (refine oS (ed rfl rfl rfl ?_ ?_ ?_) rfl ?_; (first | omega | exact Int.natCast_nonneg _); (first | omega | exact Int.natCast_nonneg _); (dsimp only [InK]; first | omega | exact ⟨Int.natCast_nonneg _, by omega⟩)) | refine oS (ev_fieldAddr rfl rfl) rfl ?_ | (refine oS (ev_conv rfl rfl rfl (wrap_in ?_)) rfl ?_; (dsimp only [InK]; first | omega | exact ⟨Int.natCast_nonneg _, by omega⟩)) | refine oS (ev_bool_eql rfl rfl rfl) rfl ?_ | refine oS (eg rfl rfl rfl) rfl ?_ | (refine jdq rfl rfl ?_ ?_ ?_; kernel_rfl; kernel_rfl) | (refine oS (ev_build (t := ?_) rfl rfl rfl ?_) rfl ?_; rotate_left; (repeat (first | exact FillF.nil | refine FillF.cons (by constructor) rfl rfl (by repeat constructor) ?_))) | refine oS (ev_ptr_eql_nil rfl rfl rfl) rfl ?_)
    refine J_loop (ι := Nat) (fun i => 16 ≤ i ∧ i ≤ 64) (fun i => 64 - i) (fun i => [(2, .pointer (some ⟨b2, 0, none⟩)), (3, .pointer (some ⟨b3, 0, none⟩)), (6, .int .i64 i)]) (fun _ => F)
      (fun i => blk b3 59 (schC bs i) :: blk b2 59 z64 :: X) 16 ⟨Nat.le_refl _, by omega⟩ ⟨⟨rfl, rfl, rfl, trivial⟩, fun _ s => s⟩ ?_
    rintro i ⟨h16, hi⟩
    by_cases hlt : i < 64
    · have hw : nextW bs (sch bs i) i = (sch bs i).getD (i - 16) 0 + (rot 7 ((sch bs i).getD (i - 15) 0) ^^^ rot 18 ((sch bs i).getD (i - 15) 0) ^^^ (sch bs i).getD (i - 15) 0 >>> 3) + (sch bs i).getD (i - 7) 0 + (rot 17 ((sch bs i).getD (i - 2) 0) ^^^ rot 19 ((sch bs i).getD (i - 2) 0) ^^^ (sch bs i).getD (i - 2) 0 >>> 10) := by
        unfold nextW; rw [if_neg (by omega)]
      have e16 : (i : Int) - 16 = ((i - 16 : Nat) : Int) := by omega
      have e15 : (i : Int) - 15 = ((i - 15 : Nat) : Int) := by omega
      have e7 : (i : Int) - 7 = ((i - 7 : Nat) : Int) := by omega
      have e2 : (i : Int) - 2 = ((i - 2 : Nat) : Int) := by omega
      repeat (first | refine jc rfl rfl ?_ | refine jr rfl ?_ | refine jn ?_ | refine oM rfl rfl ?_ | refine oS (ev_pv rfl) rfl ?_ | refine oX rfl ?_ | refine J_cond_t rfl ?_ | refine J_cond_f rfl ?_ | refine oS (eb rfl) rfl ?_ | (refine oS (ev_cmp_t rfl rfl ?_) rfl ?_; (dsimp only [cmpP] <;> omega)) | (refine oS (ev_cmp_f rfl rfl ?_) rfl ?_; (dsimp only [cmpN] <;> omega)) | (refine oS (ea rfl rfl rfl ?_) rfl ?_; (dsimp only [InK]; first | omega | exact ⟨Int.natCast_nonneg _, by omega⟩)) | (refine oS (ed rfl rfl rfl ?_ ?_ ?_) rfl ?_; (first | omega | exact Int.natCast_nonneg _); (first | omega | exact Int.natCast_nonneg _); (dsimp only [InK]; first | omega | exact ⟨Int.natCast_nonneg _, by omega⟩)) | refine oS (ev_fieldAddr rfl rfl) rfl ?_ | (refine oS (ev_conv rfl rfl rfl (wrap_in ?_)) rfl ?_; (dsimp only [InK]; first | omega | exact ⟨Int.natCast_nonneg _, by omega⟩)) | refine oS (ev_bool_eql rfl rfl rfl) rfl ?_ | refine oS (eg rfl rfl rfl) rfl ?_ | (refine jdq rfl rfl ?_ ?_ ?_; kernel_rfl; kernel_rfl) | (refine oS (ev_build (t := ?_) rfl rfl rfl ?_) rfl ?_; rotate_left; (repeat (first | exact FillF.nil | refine FillF.cons (by constructor) rfl rfl (by repeat constructor) ?_))) | refine oS (ev_ptr_eql_nil rfl rfl rfl) rfl ?_)
      rw [e15]
      refine oS (ev_indexAddr_arr rfl rfl rfl (by omega)) rfl ?_
      refine oS (ev_load rfl rfl (Rdb.ofB (n := 0) .here (schC_at bs (by omega)))) rfl ?_
      repeat (first | refine jc rfl rfl ?_ | refine jr rfl ?_ | refine jn ?_ | refine oM rfl rfl ?_ | refine oS (ev_pv rfl) rfl ?_ | refine oX rfl ?_ | refine J_cond_t rfl ?_ | refine J_cond_f rfl ?_ | refine oS (eb rfl) rfl ?_ | (refine oS (ev_cmp_t rfl rfl ?_) rfl ?_; (dsimp only [cmpP] <;> omega)) | (refine oS (ev_cmp_f rfl rfl ?_) rfl ?_; (dsimp only [cmpN] <;> omega)) | (refine oS (ea rfl rfl rfl ?_) rfl ?_; (dsimp only [InK]; first | omega | exact ⟨Int.natCast_nonneg _, by omega⟩)) | (refine oS (ed rfl rfl rfl ?_ ?_ ?_) rfl ?_; (first | omega | exact Int.natCast_nonneg _); (first | omega | exact Int.natCast_nonneg _); (dsimp only [InK]; first | omega | exact ⟨Int.natCast_nonneg _, by omega⟩)) | refine oS (ev_fieldAddr rfl rfl) rfl ?_ | (refine oS (ev_conv rfl rfl rfl (wrap_in ?_)) rfl ?_; (dsimp only [InK]; first | omega | exact ⟨Int.natCast_nonneg _, by omega⟩)) | refine oS (ev_bool_eql rfl rfl rfl) rfl ?_ | refine oS (eg rfl rfl rfl) rfl ?_ | (refine jdq rfl rfl ?_ ?_ ?_; kernel_rfl; kernel_rfl) | (refine oS (ev_build (t := ?_) rfl rfl rfl ?_) rfl ?_; rotate_left; (repeat (first | exact FillF.nil | refine FillF.cons (by constructor) rfl rfl (by repeat constructor) ?_))) | refine oS (ev_ptr_eql_nil rfl rfl rfl) rfl ?_)
      rw [e2]
      refine oS (ev_indexAddr_arr rfl rfl rfl (by omega)) rfl ?_
      refine oS (ev_load rfl rfl (Rdb.ofB (n := 0) .here (schC_at bs (by omega)))) rfl ?_
      repeat (first | refine jc rfl rfl ?_ | refine jr rfl ?_ | refine jn ?_ | refine oM rfl rfl ?_ | refine oS (ev_pv rfl) rfl ?_ | refine oX rfl ?_ | refine J_cond_t rfl ?_ | refine J_cond_f rfl ?_ | refine oS (eb rfl) rfl ?_ | (refine oS (ev_cmp_t rfl rfl ?_) rfl ?_; (dsimp only [cmpP] <;> omega)) | (refine oS (ev_cmp_f rfl rfl ?_) rfl ?_; (dsimp only [cmpN] <;> omega)) | (refine oS (ea rfl rfl rfl ?_) rfl ?_; (dsimp only [InK]; first | omega | exact ⟨Int.natCast_nonneg _, by omega⟩)) | (refine oS (ed rfl rfl rfl ?_ ?_ ?_) rfl ?_; (first | omega | exact Int.natCast_nonneg _); (first | omega | exact Int.natCast_nonneg _); (dsimp only [InK]; first | omega | exact ⟨Int.natCast_nonneg _, by omega⟩)) | refine oS (ev_fieldAddr rfl rfl) rfl ?_ | (refine oS (ev_conv rfl rfl rfl (wrap_in ?_)) rfl ?_; (dsimp only [InK]; first | omega | exact ⟨Int.natCast_nonneg _, by omega⟩)) | refine oS (ev_bool_eql rfl rfl rfl) rfl ?_ | refine oS (eg rfl rfl rfl) rfl ?_ | (refine jdq rfl rfl ?_ ?_ ?_; kernel_rfl; kernel_rfl) | (refine oS (ev_build (t := ?_) rfl rfl rfl ?_) rfl ?_; rotate_left; (repeat (first | exact FillF.nil | refine FillF.cons (by constructor) rfl rfl (by repeat constructor) ?_))) | refine oS (ev_ptr_eql_nil rfl rfl rfl) rfl ?_)
      have hp0 : (schC bs i).take (sch bs i).length = w32s (sch bs i) := by rw [sch_len]; exact schC_take bs (Nat.le_refl _)
      have hp1 : (schC bs (i + 1)).take (sch bs i).length = w32s (sch bs i) := by rw [sch_len]; exact schC_take bs (by omega)
      generalize hx : (sch bs i).getD (i - 15) 0 = x at *
      generalize hy : (sch bs i).getD (i - 2) 0 = y at *
      refine ja F [blkP b3 59 fun r => r.take (sch bs i).length = w32s (sch bs i)] ?_ ?_ ?_; kernel_rfl
      · exact fun w s => s.blkP hp0
      refine aT 0 rfl (ev_pv rfl) rfl rfl ?_ ?_ ?_ ?_; kernel_rfl; kernel_rfl; kernel_rfl
      refine aT 1 rfl (ev_pv rfl) rfl rfl ?_ ?_ ?_ ?_; kernel_rfl; kernel_rfl; kernel_rfl
      refine aT 2 rfl (ea rfl rfl (congrArg some e16) (by dsimp only [InK]; omega)) rfl rfl ?_ ?_ ?_ ?_; kernel_rfl; kernel_rfl; kernel_rfl
      refine aT 3 rfl (ev_indexAddr_arr rfl rfl rfl (by omega)) rfl rfl ?_ ?_ ?_ ?_; kernel_rfl; kernel_rfl; kernel_rfl
      refine aT 4 rfl (ev_load rfl rfl (Rdb.ofP fun r hr => words_at' (by rw [sch_len]; omega) hr)) rfl rfl ?_ ?_ ?_ ?_; kernel_rfl; kernel_rfl; kernel_rfl
      (first | refine aT 5 rfl (ev_pv rfl) rfl rfl ?_ ?_ ?_ ?_ | refine aT 5 rfl (eu rfl rfl rfl) rfl rfl ?_ ?_ ?_ ?_ | refine aT 5 rfl (ewc rfl rfl rfl) rfl rfl ?_ ?_ ?_ ?_ | refine aT 5 rfl (eusl rfl rfl (by decide)) rfl rfl ?_ ?_ ?_ ?_ | refine aT 5 rfl (eus rfl rfl (by decide)) rfl rfl ?_ ?_ ?_ ?_ | refine aT 5 rfl (eun rfl) rfl rfl ?_ ?_ ?_ ?_ | (refine aT 5 rfl (ea rfl rfl rfl ?_) rfl rfl ?_ ?_ ?_ ?_; (dsimp only [InK]; first | omega | exact ⟨Int.natCast_nonneg _, by omega⟩))); kernel_rfl; kernel_rfl; kernel_rfl
      (first | refine aT 7 rfl (ev_pv rfl) rfl rfl ?_ ?_ ?_ ?_ | refine aT 7 rfl (eu rfl rfl rfl) rfl rfl ?_ ?_ ?_ ?_ | refine aT 7 rfl (ewc rfl rfl rfl) rfl rfl ?_ ?_ ?_ ?_ | refine aT 7 rfl (eusl rfl rfl (by decide)) rfl rfl ?_ ?_ ?_ ?_ | refine aT 7 rfl (eus rfl rfl (by decide)) rfl rfl ?_ ?_ ?_ ?_ | refine aT 7 rfl (eun rfl) rfl rfl ?_ ?_ ?_ ?_ | (refine aT 7 rfl (ea rfl rfl rfl ?_) rfl rfl ?_ ?_ ?_ ?_; (dsimp only [InK]; first | omega | exact ⟨Int.natCast_nonneg _, by omega⟩))); kernel_rfl; kernel_rfl; kernel_rfl
      (first | refine aT 10 rfl (ev_pv rfl) rfl rfl ?_ ?_ ?_ ?_ | refine aT 10 rfl (eu rfl rfl rfl) rfl rfl ?_ ?_ ?_ ?_ | refine aT 10 rfl (ewc rfl rfl rfl) rfl rfl ?_ ?_ ?_ ?_ | refine aT 10 rfl (eusl rfl rfl (by decide)) rfl rfl ?_ ?_ ?_ ?_ | refine aT 10 rfl (eus rfl rfl (by decide)) rfl rfl ?_ ?_ ?_ ?_ | refine aT 10 rfl (eun rfl) rfl rfl ?_ ?_ ?_ ?_ | (refine aT 10 rfl (ea rfl rfl rfl ?_) rfl rfl ?_ ?_ ?_ ?_; (dsimp only [InK]; first | omega | exact ⟨Int.natCast_nonneg _, by omega⟩))); kernel_rfl; kernel_rfl; kernel_rfl
      (first | refine aT 11 rfl (ev_pv rfl) rfl rfl ?_ ?_ ?_ ?_ | refine aT 11 rfl (eu rfl rfl rfl) rfl rfl ?_ ?_ ?_ ?_ | refine aT 11 rfl (ewc rfl rfl rfl) rfl rfl ?_ ?_ ?_ ?_ | refine aT 11 rfl (eusl rfl rfl (by decide)) rfl rfl ?_ ?_ ?_ ?_ | refine aT 11 rfl (eus rfl rfl (by decide)) rfl rfl ?_ ?_ ?_ ?_ | refine aT 11 rfl (eun rfl) rfl rfl ?_ ?_ ?_ ?_ | (refine aT 11 rfl (ea rfl rfl rfl ?_) rfl rfl ?_ ?_ ?_ ?_; (dsimp only [InK]; first | omega | exact ⟨Int.natCast_nonneg _, by omega⟩))); kernel_rfl; kernel_rfl; kernel_rfl
      (first | refine aT 14 rfl (ev_pv rfl) rfl rfl ?_ ?_ ?_ ?_ | refine aT 14 rfl (eu rfl rfl rfl) rfl rfl ?_ ?_ ?_ ?_ | refine aT 14 rfl (ewc rfl rfl rfl) rfl rfl ?_ ?_ ?_ ?_ | refine aT 14 rfl (eusl rfl rfl (by decide)) rfl rfl ?_ ?_ ?_ ?_ | refine aT 14 rfl (eus rfl rfl (by decide)) rfl rfl ?_ ?_ ?_ ?_ | refine aT 14 rfl (eun rfl) rfl rfl ?_ ?_ ?_ ?_ | (refine aT 14 rfl (ea rfl rfl rfl ?_) rfl rfl ?_ ?_ ?_ ?_; (dsimp only [InK]; first | omega | exact ⟨Int.natCast_nonneg _, by omega⟩))); kernel_rfl; kernel_rfl; kernel_rfl
      refine aT 15 rfl (ea rfl rfl (congrArg some e7) (by dsimp only [InK]; omega)) rfl rfl ?_ ?_ ?_ ?_; kernel_rfl; kernel_rfl; kernel_rfl
      refine aT 16 rfl (ev_indexAddr_arr rfl rfl rfl (by omega)) rfl rfl ?_ ?_ ?_ ?_; kernel_rfl; kernel_rfl; kernel_rfl
      refine aT 17 rfl (ev_load rfl rfl (Rdb.ofP fun r hr => words_at' (by rw [sch_len]; omega) hr)) rfl rfl ?_ ?_ ?_ ?_; kernel_rfl; kernel_rfl; kernel_rfl
      (first | refine aT 19 rfl (ev_pv rfl) rfl rfl ?_ ?_ ?_ ?_ | refine aT 19 rfl (eu rfl rfl rfl) rfl rfl ?_ ?_ ?_ ?_ | refine aT 19 rfl (ewc rfl rfl rfl) rfl rfl ?_ ?_ ?_ ?_ | refine aT 19 rfl (eusl rfl rfl (by decide)) rfl rfl ?_ ?_ ?_ ?_ | refine aT 19 rfl (eus rfl rfl (by decide)) rfl rfl ?_ ?_ ?_ ?_ | refine aT 19 rfl (eun rfl) rfl rfl ?_ ?_ ?_ ?_ | (refine aT 19 rfl (ea rfl rfl rfl ?_) rfl rfl ?_ ?_ ?_ ?_; (dsimp only [InK]; first | omega | exact ⟨Int.natCast_nonneg _, by omega⟩))); kernel_rfl; kernel_rfl; kernel_rfl
      (first | refine aT 21 rfl (ev_pv rfl) rfl rfl ?_ ?_ ?_ ?_ | refine aT 21 rfl (eu rfl rfl rfl) rfl rfl ?_ ?_ ?_ ?_ | refine aT 21 rfl (ewc rfl rfl rfl) rfl rfl ?_ ?_ ?_ ?_ | refine aT 21 rfl (eusl rfl rfl (by decide)) rfl rfl ?_ ?_ ?_ ?_ | refine aT 21 rfl (eus rfl rfl (by decide)) rfl rfl ?_ ?_ ?_ ?_ | refine aT 21 rfl (eun rfl) rfl rfl ?_ ?_ ?_ ?_ | (refine aT 21 rfl (ea rfl rfl rfl ?_) rfl rfl ?_ ?_ ?_ ?_; (dsimp only [InK]; first | omega | exact ⟨Int.natCast_nonneg _, by omega⟩))); kernel_rfl; kernel_rfl; kernel_rfl
      (first | refine aT 24 rfl (ev_pv rfl) rfl rfl ?_ ?_ ?_ ?_ | refine aT 24 rfl (eu rfl rfl rfl) rfl rfl ?_ ?_ ?_ ?_ | refine aT 24 rfl (ewc rfl rfl rfl) rfl rfl ?_ ?_ ?_ ?_ | refine aT 24 rfl (eusl rfl rfl (by decide)) rfl rfl ?_ ?_ ?_ ?_ | refine aT 24 rfl (eus rfl rfl (by decide)) rfl rfl ?_ ?_ ?_ ?_ | refine aT 24 rfl (eun rfl) rfl rfl ?_ ?_ ?_ ?_ | (refine aT 24 rfl (ea rfl rfl rfl ?_) rfl rfl ?_ ?_ ?_ ?_; (dsimp only [InK]; first | omega | exact ⟨Int.natCast_nonneg _, by omega⟩))); kernel_rfl; kernel_rfl; kernel_rfl
      (first | refine aT 25 rfl (ev_pv rfl) rfl rfl ?_ ?_ ?_ ?_ | refine aT 25 rfl (eu rfl rfl rfl) rfl rfl ?_ ?_ ?_ ?_ | refine aT 25 rfl (ewc rfl rfl rfl) rfl rfl ?_ ?_ ?_ ?_ | refine aT 25 rfl (eusl rfl rfl (by decide)) rfl rfl ?_ ?_ ?_ ?_ | refine aT 25 rfl (eus rfl rfl (by decide)) rfl rfl ?_ ?_ ?_ ?_ | refine aT 25 rfl (eun rfl) rfl rfl ?_ ?_ ?_ ?_ | (refine aT 25 rfl (ea rfl rfl rfl ?_) rfl rfl ?_ ?_ ?_ ?_; (dsimp only [InK]; first | omega | exact ⟨Int.natCast_nonneg _, by omega⟩))); kernel_rfl; kernel_rfl; kernel_rfl
      refine aB (i := 6) (by kernel_rfl) (aP rfl (turn_nat x 7 (by decide) F) Try.call10 rfl rfl rfl (fun _ s => s.blkP hp0) ?_)
      refine aB (i := 8) (by kernel_rfl) (aP rfl (turn_nat x 18 (by decide) F) Try.call10 rfl rfl rfl (fun _ s => s.blkP hp0) ?_)
      (first | refine aT 9 rfl (ev_pv rfl) rfl rfl ?_ ?_ ?_ ?_ | refine aT 9 rfl (eu rfl rfl rfl) rfl rfl ?_ ?_ ?_ ?_ | refine aT 9 rfl (ewc rfl rfl rfl) rfl rfl ?_ ?_ ?_ ?_ | refine aT 9 rfl (eusl rfl rfl (by decide)) rfl rfl ?_ ?_ ?_ ?_ | refine aT 9 rfl (eus rfl rfl (by decide)) rfl rfl ?_ ?_ ?_ ?_ | refine aT 9 rfl (eun rfl) rfl rfl ?_ ?_ ?_ ?_ | (refine aT 9 rfl (ea rfl rfl rfl ?_) rfl rfl ?_ ?_ ?_ ?_; (dsimp only [InK]; first | omega | exact ⟨Int.natCast_nonneg _, by omega⟩))); kernel_rfl; kernel_rfl; kernel_rfl
      (first | refine aT 12 rfl (ev_pv rfl) rfl rfl ?_ ?_ ?_ ?_ | refine aT 12 rfl (eu rfl rfl rfl) rfl rfl ?_ ?_ ?_ ?_ | refine aT 12 rfl (ewc rfl rfl rfl) rfl rfl ?_ ?_ ?_ ?_ | refine aT 12 rfl (eusl rfl rfl (by decide)) rfl rfl ?_ ?_ ?_ ?_ | refine aT 12 rfl (eus rfl rfl (by decide)) rfl rfl ?_ ?_ ?_ ?_ | refine aT 12 rfl (eun rfl) rfl rfl ?_ ?_ ?_ ?_ | (refine aT 12 rfl (ea rfl rfl rfl ?_) rfl rfl ?_ ?_ ?_ ?_; (dsimp only [InK]; first | omega | exact ⟨Int.natCast_nonneg _, by omega⟩))); kernel_rfl; kernel_rfl; kernel_rfl
      (first | refine aT 13 rfl (ev_pv rfl) rfl rfl ?_ ?_ ?_ ?_ | refine aT 13 rfl (eu rfl rfl rfl) rfl rfl ?_ ?_ ?_ ?_ | refine aT 13 rfl (ewc rfl rfl rfl) rfl rfl ?_ ?_ ?_ ?_ | refine aT 13 rfl (eusl rfl rfl (by decide)) rfl rfl ?_ ?_ ?_ ?_ | refine aT 13 rfl (eus rfl rfl (by decide)) rfl rfl ?_ ?_ ?_ ?_ | refine aT 13 rfl (eun rfl) rfl rfl ?_ ?_ ?_ ?_ | (refine aT 13 rfl (ea rfl rfl rfl ?_) rfl rfl ?_ ?_ ?_ ?_; (dsimp only [InK]; first | omega | exact ⟨Int.natCast_nonneg _, by omega⟩))); kernel_rfl; kernel_rfl; kernel_rfl
      (first | refine aT 18 rfl (ev_pv rfl) rfl rfl ?_ ?_ ?_ ?_ | refine aT 18 rfl (eu rfl rfl rfl) rfl rfl ?_ ?_ ?_ ?_ | refine aT 18 rfl (ewc rfl rfl rfl) rfl rfl ?_ ?_ ?_ ?_ | refine aT 18 rfl (eusl rfl rfl (by decide)) rfl rfl ?_ ?_ ?_ ?_ | refine aT 18 rfl (eus rfl rfl (by decide)) rfl rfl ?_ ?_ ?_ ?_ | refine aT 18 rfl (eun rfl) rfl rfl ?_ ?_ ?_ ?_ | (refine aT 18 rfl (ea rfl rfl rfl ?_) rfl rfl ?_ ?_ ?_ ?_; (dsimp only [InK]; first | omega | exact ⟨Int.natCast_nonneg _, by omega⟩))); kernel_rfl; kernel_rfl; kernel_rfl
      refine aB (i := 20) (by kernel_rfl) (aP rfl (turn_nat y 17 (by decide) F) Try.call10 rfl rfl rfl (fun _ s => s.blkP hp0) ?_)
      refine aB (i := 22) (by kernel_rfl) (aP rfl (turn_nat y 19 (by decide) F) Try.call10 rfl rfl rfl (fun _ s => s.blkP hp0) ?_)
      (first | refine aT 23 rfl (ev_pv rfl) rfl rfl ?_ ?_ ?_ ?_ | refine aT 23 rfl (eu rfl rfl rfl) rfl rfl ?_ ?_ ?_ ?_ | refine aT 23 rfl (ewc rfl rfl rfl) rfl rfl ?_ ?_ ?_ ?_ | refine aT 23 rfl (eusl rfl rfl (by decide)) rfl rfl ?_ ?_ ?_ ?_ | refine aT 23 rfl (eus rfl rfl (by decide)) rfl rfl ?_ ?_ ?_ ?_ | refine aT 23 rfl (eun rfl) rfl rfl ?_ ?_ ?_ ?_ | (refine aT 23 rfl (ea rfl rfl rfl ?_) rfl rfl ?_ ?_ ?_ ?_; (dsimp only [InK]; first | omega | exact ⟨Int.natCast_nonneg _, by omega⟩))); kernel_rfl; kernel_rfl; kernel_rfl
      (first | refine aT 26 rfl (ev_pv rfl) rfl rfl ?_ ?_ ?_ ?_ | refine aT 26 rfl (eu rfl rfl rfl) rfl rfl ?_ ?_ ?_ ?_ | refine aT 26 rfl (ewc rfl rfl rfl) rfl rfl ?_ ?_ ?_ ?_ | refine aT 26 rfl (eusl rfl rfl (by decide)) rfl rfl ?_ ?_ ?_ ?_ | refine aT 26 rfl (eus rfl rfl (by decide)) rfl rfl ?_ ?_ ?_ ?_ | refine aT 26 rfl (eun rfl) rfl rfl ?_ ?_ ?_ ?_ | (refine aT 26 rfl (ea rfl rfl rfl ?_) rfl rfl ?_ ?_ ?_ ?_; (dsimp only [InK]; first | omega | exact ⟨Int.natCast_nonneg _, by omega⟩))); kernel_rfl; kernel_rfl; kernel_rfl
      (first | refine aT 27 rfl (ev_pv rfl) rfl rfl ?_ ?_ ?_ ?_ | refine aT 27 rfl (eu rfl rfl rfl) rfl rfl ?_ ?_ ?_ ?_ | refine aT 27 rfl (ewc rfl rfl rfl) rfl rfl ?_ ?_ ?_ ?_ | refine aT 27 rfl (eusl rfl rfl (by decide)) rfl rfl ?_ ?_ ?_ ?_ | refine aT 27 rfl (eus rfl rfl (by decide)) rfl rfl ?_ ?_ ?_ ?_ | refine aT 27 rfl (eun rfl) rfl rfl ?_ ?_ ?_ ?_ | (refine aT 27 rfl (ea rfl rfl rfl ?_) rfl rfl ?_ ?_ ?_ ?_; (dsimp only [InK]; first | omega | exact ⟨Int.natCast_nonneg _, by omega⟩))); kernel_rfl; kernel_rfl; kernel_rfl
      refine aT 28 rfl (ev_indexAddr_arr rfl rfl rfl (by omega)) rfl rfl ?_ ?_ ?_ ?_; kernel_rfl; kernel_rfl; kernel_rfl
      refine aB (i := 29) (by kernel_rfl) (aN rfl (ev_store (b := b3) (off := 0 + i * 1) rfl rfl .int rfl rfl (schC_lay bs (by omega) hw) (ones_cons rfl ones_nil) .here) rfl (fun _ _ _ _ ⟨e, _, e2⟩ w s => by subst e; subst e2; exact s.blkP hp1) ?_)
      rintro _ _ _ _ ⟨rfl, _, rfl⟩
      refine aD (by kernel_rfl) ?_
      repeat (first | refine jc rfl rfl ?_ | refine jr rfl ?_ | refine jn ?_ | refine oM rfl rfl ?_ | refine oS (ev_pv rfl) rfl ?_ | refine oX rfl ?_ | refine J_cond_t rfl ?_ | refine J_cond_f rfl ?_ | refine oS (eb rfl) rfl ?_ | (refine oS (ev_cmp_t rfl rfl ?_) rfl ?_; (dsimp only [cmpP] <;> omega)) | (refine oS (ev_cmp_f rfl rfl ?_) rfl ?_; (dsimp only [cmpN] <;> omega)) | (refine oS (ea rfl rfl rfl ?_) rfl ?_; (dsimp only [InK]; first | omega | exact ⟨Int.natCast_nonneg _, by omega⟩)) | (refine oS (ed rfl rfl rfl ?_ ?_ ?_) rfl ?_; (first | omega | exact Int.natCast_nonneg _); (first | omega | exact Int.natCast_nonneg _); (dsimp only [InK]; first | omega | exact ⟨Int.natCast_nonneg _, by omega⟩)) | refine oS (ev_fieldAddr rfl rfl) rfl ?_ | (refine oS (ev_conv rfl rfl rfl (wrap_in ?_)) rfl ?_; (dsimp only [InK]; first | omega | exact ⟨Int.natCast_nonneg _, by omega⟩)) | refine oS (ev_bool_eql rfl rfl rfl) rfl ?_ | refine oS (eg rfl rfl rfl) rfl ?_ | (refine jdq rfl rfl ?_ ?_ ?_; kernel_rfl; kernel_rfl) | (refine oS (ev_build (t := ?_) rfl rfl rfl ?_) rfl ?_; rotate_left; (repeat (first | exact FillF.nil | refine FillF.cons (by constructor) rfl rfl (by repeat constructor) ?_))) | refine oS (ev_ptr_eql_nil rfl rfl rfl) rfl ?_)
      refine J_again (i + 1) ⟨by omega, hlt⟩ (by omega) ⟨⟨rfl, rfl, rfl, trivial⟩, fun w s => s⟩
    · obtain rfl : i = 64 := by omega
      have e : schC bs 64 = w32s (sch bs 64) := by unfold schC; simp
      rw [e]
      have hl64 : (w32s (sch bs 64)).length = 64 := by rw [w32s_len, sch_len]
      repeat (first | refine jc rfl rfl ?_ | refine jr rfl ?_ | refine jn ?_ | refine oM rfl rfl ?_ | refine oS (ev_pv rfl) rfl ?_ | refine oX rfl ?_ | refine J_cond_t rfl ?_ | refine J_cond_f rfl ?_ | refine oS (eb rfl) rfl ?_ | (refine oS (ev_cmp_t rfl rfl ?_) rfl ?_; (dsimp only [cmpP] <;> omega)) | (refine oS (ev_cmp_f rfl rfl ?_) rfl ?_; (dsimp only [cmpN] <;> omega)) | (refine oS (ea rfl rfl rfl ?_) rfl ?_; (dsimp only [InK]; first | omega | exact ⟨Int.natCast_nonneg _, by omega⟩)) | (refine oS (ed rfl rfl rfl ?_ ?_ ?_) rfl ?_; (first | omega | exact Int.natCast_nonneg _); (first | omega | exact Int.natCast_nonneg _); (dsimp only [InK]; first | omega | exact ⟨Int.natCast_nonneg _, by omega⟩)) | refine oS (ev_fieldAddr rfl rfl) rfl ?_ | (refine oS (ev_conv rfl rfl rfl (wrap_in ?_)) rfl ?_; (dsimp only [InK]; first | omega | exact ⟨Int.natCast_nonneg _, by omega⟩)) | refine oS (ev_bool_eql rfl rfl rfl) rfl ?_ | refine oS (eg rfl rfl rfl) rfl ?_ | (refine jdq rfl rfl ?_ ?_ ?_; kernel_rfl; kernel_rfl) | (refine oS (ev_build (t := ?_) rfl rfl rfl ?_) rfl ?_; rotate_left; (repeat (first | exact FillF.nil | refine FillF.cons (by constructor) rfl rfl (by repeat constructor) ?_))) | refine oS (ev_ptr_eql_nil rfl rfl rfl) rfl ?_)
      refine oS (ev_load_agg (cs := w32s (sch bs 64)) rfl rfl (Rdb.ofB (n := 0) .here (by rw [List.drop_zero, List.take_length])) hl64) rfl ?_
      refine oN (ev_store (b := b2) rfl rfl .agg rfl hl64 (lay_all (zs := z64) hl64) (w32s_ones _) (.there .here)) rfl ?_
      rintro _ _ _ _ ⟨rfl, _, rfl⟩
      repeat (first | refine jc rfl rfl ?_ | refine jr rfl ?_ | refine jn ?_ | refine oM rfl rfl ?_ | refine oS (ev_pv rfl) rfl ?_ | refine oX rfl ?_ | refine J_cond_t rfl ?_ | refine J_cond_f rfl ?_ | refine oS (eb rfl) rfl ?_ | (refine oS (ev_cmp_t rfl rfl ?_) rfl ?_; (dsimp only [cmpP] <;> omega)) | (refine oS (ev_cmp_f rfl rfl ?_) rfl ?_; (dsimp only [cmpN] <;> omega)) | (refine oS (ea rfl rfl rfl ?_) rfl ?_; (dsimp only [InK]; first | omega | exact ⟨Int.natCast_nonneg _, by omega⟩)) | (refine oS (ed rfl rfl rfl ?_ ?_ ?_) rfl ?_; (first | omega | exact Int.natCast_nonneg _); (first | omega | exact Int.natCast_nonneg _); (dsimp only [InK]; first | omega | exact ⟨Int.natCast_nonneg _, by omega⟩)) | refine oS (ev_fieldAddr rfl rfl) rfl ?_ | (refine oS (ev_conv rfl rfl rfl (wrap_in ?_)) rfl ?_; (dsimp only [InK]; first | omega | exact ⟨Int.natCast_nonneg _, by omega⟩)) | refine oS (ev_bool_eql rfl rfl rfl) rfl ?_ | refine oS (eg rfl rfl rfl) rfl ?_ | (refine jdq rfl rfl ?_ ?_ ?_; kernel_rfl; kernel_rfl) | (refine oS (ev_build (t := ?_) rfl rfl rfl ?_) rfl ?_; rotate_left; (repeat (first | exact FillF.nil | refine FillF.cons (by constructor) rfl rfl (by repeat constructor) ?_))) | refine oS (ev_ptr_eql_nil rfl rfl rfl) rfl ?_)
      exact J_retv (vs := [.agg (w32s (sch bs 64)).toArray]) rfl (.agg rfl rfl (Rdb.ofB (n := 0) (.there .here) (by rw [List.drop_zero, List.take_length])) hl64 .nil) [] (fun w s => s.drop.drop) (PH.ler _) ⟨rfl, rfl⟩
end Go.Proofs.Ytkhdodlfkpcojaa
