/-
  Rows of tags, endorsements, and one read by the program. Conditions are typed with each.
-/
import Derived.Test.YtaggonhgafggkaaRd
import Derived.Test.YtaggonhgafggkaaKs
namespace Go.Proofs.Ytaggonhgafggkaa
open Go.RowKit
set_option maxRecDepth 100000
theorem All2.snoc {α β : Type} {R : α → β → Prop} {x : α} {y : β} : ∀ {xs : List α} {ys : List β}, All2 R xs ys → R x y → All2 R (xs ++ [x]) (ys ++ [y])
  | _, _, .nil, h => .cons h .nil
  | _, _, .cons h t, h' => .cons h (t.snoc h')
theorem RowV.of_own {P : Program} {e E : TypeId} {α : Type} {te : Ty P e α} {F h : PH} {v : Value} {n : Nat} {xs : List α} {css : List (List Value)} (ho : own v E te.sz n css.flatten h) (hd : F.dj h) (hn : xs.length = n) (ha : All2 (te.rep F) xs css) : RowV te (F.un h) v xs := by
  subst hn
  exact ⟨css, own_slice ho hd, ha.mono fun _ _ hr => te.mono (PH.le_l _ _) hr⟩
/-- A row of tags. -/
def Tags (F : PH) (v : Value) (ts : List (List UInt8)) : Prop := SliceV F 32 v ts.length (ts.map u8s).flatten ∧ ∀ t ∈ ts, t.length = 32
theorem Tags.mono {F G : PH} {v : Value} {ts : List (List UInt8)} (h : Tags F v ts) (hl : F.le G) : Tags G v ts := ⟨SliceV.mono h.1 hl, h.2⟩
theorem Tags.form {F : PH} {v : Value} {ts : List (List UInt8)} (h : Tags F v ts) : ∃ a c, v = .slice a ts.length c ∧ ts.length ≤ c := by
  obtain ⟨⟨_, a, c, e, hn, _⟩, _⟩ := h
  exact ⟨a, c, e, hn⟩
theorem Tags.nil (F : PH) : Tags F (.slice none 0 0) [] := ⟨SliceV.nil F 32, fun _ h => by cases h⟩
theorem Tags.at {F : PH} {a : Option Addr} {n c j : Nat} {ts : List (List UInt8)} {t : List UInt8} (h : Tags F (.slice a n c) ts) (hn : ts.length = n) (hj : ts[j]? = some t) : ∃ b off, a = some ⟨b, off, none⟩ ∧ Cells F b (off + j * 32) (u8s t) ∧ t.length = 32 := by
  subst hn
  obtain ⟨hlt, rfl⟩ := List.getElem?_eq_some_iff.1 hj
  obtain ⟨b1, off1, ha, hcc⟩ := h.1.row (fun c hc => by obtain ⟨t, htm, rfl⟩ := List.mem_map.1 hc; rw [u8s_len]; exact h.2 t htm) (i := j) (r := u8s ts[j]) (by rw [List.getElem?_map, hj]; rfl) hlt
  exact ⟨b1, off1, ha, hcc, h.2 _ (List.getElem_mem hlt)⟩
theorem elT : Elem Try.prog 70 106 32 32 (.agg (List.replicate 32 (.int .u8 0)).toArray) := ⟨rfl, ⟨_, rfl, rfl, rfl, rfl, rfl, by decide⟩, rfl, rfl⟩
abbrev tagRow (v : Value) (j : Nat) (ts : List (List UInt8)) : Asrt := own v 106 32 j (ts.map u8s).flatten
theorem tagRow_tags {F h : PH} {v : Value} {j : Nat} {ts : List (List UInt8)} (ho : tagRow v j ts h) (hd : F.dj h) (hj : ts.length = j) (h32 : ∀ t ∈ ts, t.length = 32) : Tags (F.un h) v ts := by
  subst hj; exact ⟨own_slice ho hd, h32⟩
def tyTag : Ty Try.prog 106 (List UInt8) := tyArr Try.underlying106 Try.underlying5 (by kernel_rfl) (by kernel_rfl)
def tyTags : Ty Try.prog 70 (List (List UInt8)) := tySlice tyTag Try.underlying70 (by kernel_rfl) (by decide)
def tyI64 : Ty Try.prog 3 Int := tyInt Try.underlying3
abbrev En := Int × List (List UInt8) × Unit
def tyEn : Ty Try.prog 72 En := tyStruct Try.underlying72 (fsCons tyI64 (fsCons tyTags (fsNil _) rfl (by kernel_rfl)) rfl (by kernel_rfl)) (by kernel_rfl)
theorem row_tags {F : PH} {v : Value} {ts : List (List UInt8)} (h : RowV tyTag F v ts) : Tags F v ts := by
  obtain ⟨css, h1, h2⟩ := h
  have h3 : css = ts.map u8s ∧ ∀ t ∈ ts, t.length = 32 := by
    clear h1
    induction h2 with
    | nil => exact ⟨rfl, fun _ h => by cases h⟩
    | cons h _ ih =>
      obtain ⟨rfl, h32⟩ := h
      refine ⟨by rw [ih.1]; rfl, fun t ht => ?_⟩
      rcases List.mem_cons.1 ht with rfl | ht
      · exact h32
      · exact ih.2 t ht
  obtain ⟨rfl, h32⟩ := h3
  exact ⟨h1, h32⟩
theorem tags_row {F : PH} {v : Value} {ts : List (List UInt8)} (h : Tags F v ts) : RowV tyTag F v ts := by
  refine ⟨ts.map u8s, h.1, ?_⟩
  have h32 := h.2
  clear h
  induction ts with
  | nil => exact .nil
  | cons t ts ih => exact .cons ⟨rfl, h32 t List.mem_cons_self⟩ (ih fun t ht => h32 t (List.mem_cons_of_mem _ ht))
def enC (o : Int) (v : Value) : List Value := [.int .i64 o, v]
abbrev zEn : List Value := [.int .i64 0, .slice none 0 0]
theorem en_of {F : PH} {e : En} {cs : List Value} (h : tyEn.rep F e cs) : ∃ a c, cs = enC e.1 (.slice a e.2.1.length c) ∧ Tags F (.slice a e.2.1.length c) e.2.1 ∧ InK .i64 e.1 := by
  obtain ⟨_, _, rfl, ⟨rfl, k0⟩, _, _, rfl, ⟨vt, rfl, ht⟩, rfl⟩ := h
  have ht' := row_tags ht
  obtain ⟨a, c, rfl, _⟩ := ht'.form
  exact ⟨a, c, rfl, ht', k0⟩
theorem of_en {F : PH} {o : Int} {v : Value} {ts : List (List UInt8)} (h : Tags F v ts) (ho : InK .i64 o) : tyEn.rep F (o, ts, ()) (enC o v) := ⟨_, _, rfl, ⟨rfl, ho⟩, _, _, rfl, ⟨v, rfl, tags_row h⟩, rfl⟩
theorem elE : Elem Try.prog 64 72 2 32 (.agg zEn.toArray) := ⟨rfl, ⟨_, rfl, rfl, rfl, rfl, rfl, by decide⟩, rfl, rfl⟩
theorem ones_en (o : Int) (a : Option Addr) (n c : Nat) : Ones (enC o (.slice a n c)) := by unfold enC; (repeat (first | exact ones_nil | refine ones_cons rfl ?_))
theorem iN_in (n : Nat) : InK .i64 (iN n) := by
  unfold iN
  have := Int.emod_lt_of_pos (n : Int) (show (0 : Int) < 18446744073709551616 by decide)
  simp only [IntKind.wrap, IntKind.bits, IntKind.signed]
  have e : (2 : Int) ^ 64 = 18446744073709551616 := by decide
  dsimp only [InK]
  simp [e]
  omega
/-- One endorsement read: it, the error, what is left. -/
def oneR (n : Nat) (e : Int) (bs : List UInt8) : En × Int × List UInt8 :=
  let r1 := numR e bs 1
  let t := tagsR r1.2.1 r1.2.2 n
  ((iN r1.1, t.2.2, ()), t.1, t.2.1)
theorem oneR_eq {n : Nat} {e : Int} {bs : List UInt8} {r1 : Nat × Int × List UInt8} (h : numR e bs 1 = r1) : oneR n e bs = ((iN r1.1, (tagsR r1.2.1 r1.2.2 n).2.2, ()), (tagsR r1.2.1 r1.2.2 n).1, (tagsR r1.2.1 r1.2.2 n).2.1) := by subst h; rfl
theorem oneR_rest (n : Nat) (e : Int) (bs : List UInt8) : (oneR n e bs).2.2.length ≤ bs.length := Nat.le_trans (tagsR_rest _ _ _) (numR_rest _ _ _)
theorem oneR_stick {e : Int} (he : e ≠ 0) (n : Nat) (bs : List UInt8) : (oneR n e bs).2.1 = e := by
  rw [oneR_eq rfl]
  dsimp only
  rw [numR_stick he, tagsR_stick he]
def EndQ (R : Nat → Value → Int → Asrt) (b : Nat) (r : En × Int × List UInt8) (u : Value) (F' : PH) (H' : List Asrt) : Prop := ∃ v' co, u = .agg co.toArray ∧ tyEn.rep F' r.1 co ∧ Byt F' v' r.2.2 ∧ H' = [R b v' r.2.1]
set_option maxHeartbeats 16000000 in
theorem readEnd_spec (b : Nat) (v : Value) (e : Int) (n : Nat) (bs : List UInt8) (F : PH) (h : Byt F v bs) (hl : bs.length ≤ 1048576) (hn : n ≤ 7) :
    Spec Try.prog 75 [.pointer (some ⟨b, 0, none⟩), .int .i64 n] F [rdr b v e] (EndQ rdr b (oneR n e bs)) := by
  refine Spec.of2 Try.func75 rfl rfl fun X w0 => ?_
  refine jc rfl rfl ?_
  refine jr rfl ?_
  refine oE (ev_alloc (cs := zEn) rfl) rfl ?_
  rintro _ _ _ _ ⟨rfl, b4, rfl, rfl⟩
  repeat (first|refine zJ rfl rfl ?_|refine jr rfl ?_|refine jn ?_|refine zM rfl rfl ?_|(refine zC rfl rfl ?_ rfl ?_;omega)|(refine zD rfl rfl ?_ rfl ?_;omega)|(refine zP rfl ?_ rfl ?_;omega)|refine zG rfl rfl rfl rfl ?_|(refine jdq rfl rfl ?_ ?_ ?_;kernel_rfl;kernel_rfl)|refine zB rfl rfl rfl (by repeat constructor) rfl ?_|refine zH .here rfl rfl rfl rfl ?_|refine zH (.there .here) rfl rfl rfl rfl ?_|refine zH (.there (.there .here)) rfl rfl rfl rfl ?_)
  refine oC (Hc := [rdr b v e]) (Hr := blk b4 72 zEn :: X) (number_spec b v e 1 bs F h (by omega)) Try.call73 rfl rfl (fun _ s => s.pick (.there .here)) ?_
  rintro _ F1 _ hF1 ⟨v1, rfl, hv1, rfl⟩
  have n1 := numR_rest e bs 1
  generalize hr1 : numR e bs 1 = r1 at *
  rw [oneR_eq hr1]
  repeat (first|refine zJ rfl rfl ?_|refine jr rfl ?_|refine jn ?_|refine zM rfl rfl ?_|(refine zC rfl rfl ?_ rfl ?_;omega)|(refine zD rfl rfl ?_ rfl ?_;omega)|(refine zP rfl ?_ rfl ?_;omega)|refine zG rfl rfl rfl rfl ?_|(refine jdq rfl rfl ?_ ?_ ?_;kernel_rfl;kernel_rfl)|refine zB rfl rfl rfl (by repeat constructor) rfl ?_|refine zH .here rfl rfl rfl rfl ?_|refine zH (.there .here) rfl rfl rfl rfl ?_|refine zH (.there (.there .here)) rfl rfl rfl rfl ?_)
  refine oS (ev_conv rfl rfl rfl (iN_wrap _)) rfl ?_
  repeat (first|refine zJ rfl rfl ?_|refine jr rfl ?_|refine jn ?_|refine zM rfl rfl ?_|(refine zC rfl rfl ?_ rfl ?_;omega)|(refine zD rfl rfl ?_ rfl ?_;omega)|(refine zP rfl ?_ rfl ?_;omega)|refine zG rfl rfl rfl rfl ?_|(refine jdq rfl rfl ?_ ?_ ?_;kernel_rfl;kernel_rfl)|refine zB rfl rfl rfl (by repeat constructor) rfl ?_|refine zH .here rfl rfl rfl rfl ?_|refine zH (.there .here) rfl rfl rfl rfl ?_|refine zH (.there (.there .here)) rfl rfl rfl rfl ?_)
  refine oE (ev_alloc rfl) rfl ?_; rintro _ _ _ _ ⟨rfl, b5, rfl, rfl⟩; refine oN (ev_store rfl rfl .agg rfl rfl (lay_all ?_) ?_ .here) rfl ?_; rfl; rotate_left; rintro _ _ _ _ ⟨rfl, rfl, rfl⟩; rotate_left
  · exact ones_en _ _ _ _
  repeat (first|refine zJ rfl rfl ?_|refine jr rfl ?_|refine jn ?_|refine zM rfl rfl ?_|(refine zC rfl rfl ?_ rfl ?_;omega)|(refine zD rfl rfl ?_ rfl ?_;omega)|(refine zP rfl ?_ rfl ?_;omega)|refine zG rfl rfl rfl rfl ?_|(refine jdq rfl rfl ?_ ?_ ?_;kernel_rfl;kernel_rfl)|refine zB rfl rfl rfl (by repeat constructor) rfl ?_|refine zH .here rfl rfl rfl rfl ?_|refine zH (.there .here) rfl rfl rfl rfl ?_|refine zH (.there (.there .here)) rfl rfl rfl rfl ?_)
  refine J_own_nil 106 32 ?_
  refine J_loop4 (fun (j : Nat) (v : Value) (_ : Value) (G : PH) => j ≤ n ∧ F1.le G ∧ Byt G v (tagsR r1.2.1 r1.2.2 j).2.1) (fun j _ _ _ => n - j)
    (fun j _ _ _ => [(0, .pointer (some ⟨b, 0, none⟩)), (4, .pointer (some ⟨b4, 0, none⟩)), (5, .pointer (some ⟨b5, 0, none⟩)), (11, .int .i64 n), (12, .int .i64 j)]) (fun _ _ _ G => G)
    (fun j v vt _ => rdr b v (tagsR r1.2.1 r1.2.2 j).1 :: blk b5 72 (enC (iN r1.1) vt) :: tagRow vt j (tagsR r1.2.1 r1.2.2 j).2.2 :: blk b4 72 zEn :: X)
    0 v1 (.slice none 0 0) F1 ⟨Nat.zero_le _, PH.ler _, hv1⟩ ⟨⟨rfl, rfl, rfl, rfl, rfl, trivial⟩, fun w s => ?_⟩ ?_
  · have s1 := s.pick (.there (.there .here))
    exact (s1.pick (.there .here)).unpick (.there (.there .here))
  rintro j v vt G ⟨hj, hG, hv⟩
  by_cases hlt : j < n
  · have hrest := tagsR_rest r1.2.1 r1.2.2 j
    repeat (first|refine zJ rfl rfl ?_|refine jr rfl ?_|refine jn ?_|refine zM rfl rfl ?_|(refine zC rfl rfl ?_ rfl ?_;omega)|(refine zD rfl rfl ?_ rfl ?_;omega)|(refine zP rfl ?_ rfl ?_;omega)|refine zG rfl rfl rfl rfl ?_|(refine jdq rfl rfl ?_ ?_ ?_;kernel_rfl;kernel_rfl)|refine zB rfl rfl rfl (by repeat constructor) rfl ?_|refine zH .here rfl rfl rfl rfl ?_|refine zH (.there .here) rfl rfl rfl rfl ?_|refine zH (.there (.there .here)) rfl rfl rfl rfl ?_)
    refine oE (ev_alloc (cs := z32) rfl) rfl ?_
    rintro _ _ _ _ ⟨rfl, b6, rfl, rfl⟩
    repeat (first|refine zJ rfl rfl ?_|refine jr rfl ?_|refine jn ?_|refine zM rfl rfl ?_|(refine zC rfl rfl ?_ rfl ?_;omega)|(refine zD rfl rfl ?_ rfl ?_;omega)|(refine zP rfl ?_ rfl ?_;omega)|refine zG rfl rfl rfl rfl ?_|(refine jdq rfl rfl ?_ ?_ ?_;kernel_rfl;kernel_rfl)|refine zB rfl rfl rfl (by repeat constructor) rfl ?_|refine zH .here rfl rfl rfl rfl ?_|refine zH (.there .here) rfl rfl rfl rfl ?_|refine zH (.there (.there .here)) rfl rfl rfl rfl ?_)
    refine ja G [] ?_ ?_ ?_; kernel_rfl
    · exact fun w s => s.bare
    refine aT 0 rfl (ev_slice_arr rfl rfl) rfl rfl ?_ ?_ ?_ ?_; kernel_rfl; kernel_rfl; kernel_rfl
    refine aT 1 rfl (ev_pv rfl) rfl rfl ?_ ?_ ?_ ?_; kernel_rfl; kernel_rfl; kernel_rfl
    refine aB (i := 2) (by kernel_rfl) (aC (Hc := [rdr b v (tagsR r1.2.1 r1.2.2 j).1]) (Hr := blk b6 106 z32 :: blk b5 72 (enC (iN r1.1) vt) :: tagRow vt j (tagsR r1.2.1 r1.2.2 j).2.2 :: blk b4 72 zEn :: X) rfl (fixed_spec b v (tagsR r1.2.1 r1.2.2 j).1 32 (tagsR r1.2.1 r1.2.2 j).2.1 G hv (by omega)) Try.call82 rfl rfl rfl (fun _ s => s.pick (.there .here)) (fun _ _ _ hF _ w s => (s.mono hF).bare) ?_)
    rintro u G2 _ hG2 ⟨v6, hu6, hv6, rfl⟩
    refine aF hG2 ?_
    have h32 := fixR_le32 (tagsR r1.2.1 r1.2.2 j).1 (tagsR r1.2.1 r1.2.2 j).2.1
    have hts := tagsR_succ r1.2.1 r1.2.2 j
    generalize hr6 : fixR (tagsR r1.2.1 r1.2.2 j).1 (tagsR r1.2.1 r1.2.2 j).2.1 32 = r6 at *
    obtain ⟨a6, c6, rfl, hc6⟩ := hu6.form
    refine aB (i := 3) (by kernel_rfl) (aE rfl (ev_copy (k := r6.1.length) rfl rfl rfl hu6.rds (u8s_ones _) (by rcases h32 with h | h <;> rw [h] <;> rfl) (by rw [← u8s_len, List.take_length]) (lay_pad h32) (.there .here)) rfl rfl ?_ ?_)
    · rintro _ _ _ _ ⟨rfl, rfl, rfl⟩ w s
      exact s.bare
    rintro _ _ _ _ ⟨rfl, rfl, rfl⟩
    refine aD (by kernel_rfl) ?_
    have hp32 := pad32_len h32
    repeat (first|refine zJ rfl rfl ?_|refine jr rfl ?_|refine jn ?_|refine zM rfl rfl ?_|(refine zC rfl rfl ?_ rfl ?_;omega)|(refine zD rfl rfl ?_ rfl ?_;omega)|(refine zP rfl ?_ rfl ?_;omega)|refine zG rfl rfl rfl rfl ?_|(refine jdq rfl rfl ?_ ?_ ?_;kernel_rfl;kernel_rfl)|refine zB rfl rfl rfl (by repeat constructor) rfl ?_|refine zH .here rfl rfl rfl rfl ?_|refine zH (.there .here) rfl rfl rfl rfl ?_|refine zH (.there (.there .here)) rfl rfl rfl rfl ?_)
    refine oS (ev_load_agg (cs := u8s (pad32 r6.1)) rfl rfl (Rdb.ofB (n := 0) (.there .here) (by rw [List.drop_zero, List.take_length])) (by rw [u8s_len]; exact hp32)) rfl ?_
    refine oA (fun _ => rfl) rfl .agg (by rw [u8s_len]; exact hp32) elT (u8s_ones _) (by omega) (fun _ => .there (.there (.there .here))) rfl (fun _ => rfl) fun u w => ?_
    refine oWith (.there (.there (.there .here))) OwnForm.of fun hfx => ?_
    obtain ⟨ax, cx, rfl, _, _, _⟩ := hfx
    repeat (first|refine zJ rfl rfl ?_|refine jr rfl ?_|refine jn ?_|refine zM rfl rfl ?_|(refine zC rfl rfl ?_ rfl ?_;omega)|(refine zD rfl rfl ?_ rfl ?_;omega)|(refine zP rfl ?_ rfl ?_;omega)|refine zG rfl rfl rfl rfl ?_|(refine jdq rfl rfl ?_ ?_ ?_;kernel_rfl;kernel_rfl)|refine zB rfl rfl rfl (by repeat constructor) rfl ?_|refine zH .here rfl rfl rfl rfl ?_|refine zH (.there .here) rfl rfl rfl rfl ?_|refine zH (.there (.there .here)) rfl rfl rfl rfl ?_)
    refine oN (ev_store rfl rfl .slice rfl rfl (.skip (.put .nil)) (ones_cons rfl ones_nil) (.there (.there .here))) rfl ?_
    rintro _ _ _ _ ⟨rfl, _, rfl⟩
    repeat (first|refine zJ rfl rfl ?_|refine jr rfl ?_|refine jn ?_|refine zM rfl rfl ?_|(refine zC rfl rfl ?_ rfl ?_;omega)|(refine zD rfl rfl ?_ rfl ?_;omega)|(refine zP rfl ?_ rfl ?_;omega)|refine zG rfl rfl rfl rfl ?_|(refine jdq rfl rfl ?_ ?_ ?_;kernel_rfl;kernel_rfl)|refine zB rfl rfl rfl (by repeat constructor) rfl ?_|refine zH .here rfl rfl rfl rfl ?_|refine zH (.there .here) rfl rfl rfl rfl ?_|refine zH (.there (.there .here)) rfl rfl rfl rfl ?_)
    refine J_again4 (j + 1) v6 (.slice ax (j + 1) cx) G2 ⟨hlt, hG.trans hG2, by rw [hts]; exact hv6⟩ (by omega) ⟨⟨rfl, rfl, rfl, rfl, rfl, trivial⟩, fun w s => ?_⟩
    rw [hts]
    have e : ((((tagsR r1.2.1 r1.2.2 j).2.2 ++ [pad32 r6.1]).map u8s).flatten) = ((tagsR r1.2.1 r1.2.2 j).2.2.map u8s).flatten ++ u8s (pad32 r6.1) := by simp
    dsimp only [tagRow]
    rw [e]
    exact (s.pick (.there .here)).drop
  · obtain rfl : j = n := by omega
    have hlen := tagsR_len r1.2.1 r1.2.2 j
    have h32 := tagsR_32 r1.2.1 r1.2.2 j
    generalize hrt : tagsR r1.2.1 r1.2.2 j = rt at *
    refine J_pick (.there (.there .here)) (J_persist fun h1 hA1 hd1 => ?_)
    have htags := tagRow_tags hA1 hd1 hlen h32
    have hle := PH.le_l G h1
    generalize G.un h1 = G1 at *
    obtain ⟨ax, cx, rfl, hcx⟩ := htags.form
    repeat (first|refine zJ rfl rfl ?_|refine jr rfl ?_|refine jn ?_|refine zM rfl rfl ?_|(refine zC rfl rfl ?_ rfl ?_;omega)|(refine zD rfl rfl ?_ rfl ?_;omega)|(refine zP rfl ?_ rfl ?_;omega)|refine zG rfl rfl rfl rfl ?_|(refine jdq rfl rfl ?_ ?_ ?_;kernel_rfl;kernel_rfl)|refine zB rfl rfl rfl (by repeat constructor) rfl ?_|refine zH .here rfl rfl rfl rfl ?_|refine zH (.there .here) rfl rfl rfl rfl ?_|refine zH (.there (.there .here)) rfl rfl rfl rfl ?_)
    refine oS (ev_load_agg (cs := enC (iN r1.1) (.slice ax rt.2.2.length cx)) rfl rfl (Rdb.ofB (n := 0) (.there .here) rfl) rfl) rfl ?_
    refine oN (ev_store (b := b4) rfl rfl .agg rfl rfl (lay_all (zs := zEn) rfl) (ones_en _ _ _ _) (.there (.there .here))) rfl ?_
    rintro _ _ _ _ ⟨rfl, _, rfl⟩
    repeat (first|refine zJ rfl rfl ?_|refine jr rfl ?_|refine jn ?_|refine zM rfl rfl ?_|(refine zC rfl rfl ?_ rfl ?_;omega)|(refine zD rfl rfl ?_ rfl ?_;omega)|(refine zP rfl ?_ rfl ?_;omega)|refine zG rfl rfl rfl rfl ?_|(refine jdq rfl rfl ?_ ?_ ?_;kernel_rfl;kernel_rfl)|refine zB rfl rfl rfl (by repeat constructor) rfl ?_|refine zH .here rfl rfl rfl rfl ?_|refine zH (.there .here) rfl rfl rfl rfl ?_|refine zH (.there (.there .here)) rfl rfl rfl rfl ?_)
    exact J_retv (vs := [.agg (enC (iN r1.1) (.slice ax rt.2.2.length cx)).toArray]) rfl (.agg rfl rfl (Rdb.ofB (n := 0) (.there (.there .here)) rfl) rfl .nil) [rdr b v rt.1] (fun w s => (s.pick (.there .here)).drop.pick (.there .here) |>.drop) (hF1.trans (hG.trans hle)) ⟨v, _, rfl, of_en htags (iN_in _), hv.mono hle, rfl⟩
end Go.Proofs.Ytaggonhgafggkaa
