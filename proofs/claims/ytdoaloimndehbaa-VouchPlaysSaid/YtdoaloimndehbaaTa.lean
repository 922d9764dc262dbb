/-
  The tally of digests: who votes for what, and how many. Conditions are typed with each.
-/
import Derived.Test.YtdoaloimndehbaaLd
import Derived.Test.YtdoaloimndehbaaLb
import Derived.Test.YtdoaloimndehbaaLc
import Derived.Test.YtdoaloimndehbaaProg
namespace Go.Proofs.Ytdoaloimndehbaa
open Go.RowKit
set_option maxRecDepth 100000
/-- A digest. -/
abbrev Dg := {d : List UInt8 // d.length = 32}
abbrev Dg.v (d : Dg) : Value := .agg (u8s d.1).toArray
def zDg : Dg := ⟨List.replicate 32 0, by decide⟩
theorem sameBits_u8s (bs : List UInt8) (n : Nat) : Instr.sameBits (n + 1) (.agg (u8s bs).toArray) (.agg (u8s bs).toArray) = true := by
  simp only [Instr.sameBits, BEq.rfl, Bool.true_and, List.all_eq_true]
  intro p hp
  obtain ⟨x, y⟩ := p
  have hxy : ∀ (L : List Value) (q : Value × Value), q ∈ L.zip L → q.1 = q.2 ∧ q.1 ∈ L := by
    intro L
    induction L with
    | nil => intro q hq; simp at hq
    | cons a L ih =>
      intro q hq
      rw [List.zip_cons_cons, List.mem_cons] at hq
      rcases hq with rfl | hq
      · exact ⟨rfl, by simp⟩
      · obtain ⟨h1, h2⟩ := ih q hq
        exact ⟨h1, by simp [h2]⟩
  obtain ⟨h1, h2⟩ := hxy _ _ hp
  dsimp only at h1 h2 ⊢
  subst h1
  simp only [u8s, List.mem_map] at h2
  obtain ⟨c, _, rfl⟩ := h2
  simp [Instr.sameBits]
def keyDg : KeyT Try.prog 29 Dg where
  val := Dg.v
  chk := fun b a w => checkKey_bytes rfl rfl b a.1 a.2 w 9998
  find := find_wide Dg.v rfl fun a b w => by
    have h := arr_equal (P := Try.prog) (T := 29) rfl rfl a.1 b.1 a.2 b.2 w
    unfold Dg.v
    rw [h]
    congr 1
    rw [Bool.eq_iff_iff]
    simp [Subtype.ext_iff]
  same := fun a => sameBits_u8s a.1 9999
def keyI : KeyT Try.prog 3 Int := keyInt (k := .i64) rfl
/-! what is in the maps -/
abbrev Vts := List (Int × Dg)
def hasV : Vts → Int → Option Dg
  | [], _ => none
  | (w, d) :: r, who => if who = w then some d else hasV r who
def voM (vs : Vts) : List (Int × Value) := vs.map fun p => (p.1, p.2.v)
theorem getK_voM : ∀ (vs : Vts) (who : Int), getK (voM vs) who = (hasV vs who).map Dg.v
  | [], _ => rfl
  | (w, d) :: r, who => by
    show getK ((w, d.v) :: voM r) who = _
    rw [getK_cons, getK_voM r who, hasV]
    by_cases h : who = w
    · rw [if_pos h, if_pos h]; rfl
    · rw [if_neg h, if_neg h]
theorem setK_voM : ∀ {vs : Vts} {who : Int} (d : Dg), hasV vs who = none → setK (voM vs) who d.v = voM (vs ++ [(who, d)])
  | [], _, _, _ => rfl
  | (w, e) :: r, who, d, h => by
    unfold hasV at h
    by_cases hw : who = w
    · rw [if_pos hw] at h; cases h
    · rw [if_neg hw] at h
      show setK ((w, e.v) :: voM r) who d.v = (w, e.v) :: voM (r ++ [(who, d)])
      unfold setK
      rw [if_neg hw, setK_voM d h]
def cntV (vs : Vts) (d : Dg) : Nat := (vs.filter fun p => p.2 = d).length
theorem cntV_le (vs : Vts) (d : Dg) : cntV vs d ≤ vs.length := List.length_filter_le _ _
def gv (C : List (Dg × Value)) (d : Dg) : Value := (getK C d).getD (.int .i64 0)
def iv : Value → Int
  | .int _ n => n
  | _ => 0
def cstep (C : List (Dg × Value)) (x : Int × Dg) : List (Dg × Value) := setK (setK C x.2 (gv C x.2)) x.2 (.int .i64 (iv (gv C x.2) + 1))
def cntM (vs : Vts) : List (Dg × Value) := vs.foldl cstep []
theorem cntM_snoc (vs : Vts) (x : Int × Dg) : cntM (vs ++ [x]) = cstep (cntM vs) x := by unfold cntM; rw [List.foldl_append]; rfl
theorem gv_foldl : ∀ (vs : Vts) (C : List (Dg × Value)) (c0 : Dg → Int), (∀ d, gv C d = .int .i64 (c0 d)) → ∀ d, gv (vs.foldl cstep C) d = .int .i64 (c0 d + cntV vs d)
  | [], C, c0, h, d => by rw [List.foldl_nil, h d]; simp [cntV]
  | x :: r, C, c0, h, d => by
    rw [List.foldl_cons, gv_foldl r (cstep C x) (fun d => if d = x.2 then c0 d + 1 else c0 d) ?_ d]
    · unfold cntV
      rw [List.filter_cons]
      by_cases hd : d = x.2
      · subst hd; simp; omega
      · have : ¬ x.2 = d := fun e => hd e.symm
        simp [hd, this]
    · intro e
      unfold cstep gv
      rw [getK_set, getK_set]
      by_cases he : e = x.2
      · subst he
        rw [if_pos rfl, if_pos rfl]
        have := h x.2
        unfold gv at this
        rw [this]
        rfl
      · rw [if_neg he, if_neg he, if_neg he]
        exact h e
theorem gv_cntM (vs : Vts) (d : Dg) : gv (cntM vs) d = .int .i64 (cntV vs d) := by
  have h := gv_foldl vs [] (fun _ => 0) (fun _ => rfl) d
  rw [Int.zero_add] at h
  exact h
theorem scanK_set {α : Type} [DecidableEq α] (a : α) (v : Value) : ∀ (M : List (α × Value)) (i : Nat), scanK a (setK M a v) i = some ((atK M a).getD M.length + i, v)
  | [], i => by unfold setK scanK; rw [if_pos rfl]; simp [atK, scanK]
  | (k, u) :: r, i => by
    unfold setK atK
    rw [scanK_cons k u r a 0]
    by_cases h : a = k
    · rw [if_pos h, if_pos h, scanK_cons, if_pos h]; simp
    · rw [if_neg h, if_neg h, scanK_cons, if_neg h, scanK_set a v r (i + 1), scanK_shift]
      unfold atK
      generalize scanK a r 0 = q
      cases q <;> simp <;> omega
/-! digests in blocks -/
theorem dig_len (d : Dg) : (u8s d.1).length = 32 := by simp [u8s, d.2]
theorem dig_ones (d : Dg) : Ones (u8s d.1) := fun v hv => by
  unfold u8s at hv
  obtain ⟨b, _, rfl⟩ := List.mem_map.1 hv
  rfl
theorem dig_all (d : Dg) : ((u8s d.1).drop 0).take (u8s d.1).length = u8s d.1 := by rw [List.drop_zero, List.take_length]
theorem lay_D (d e : Dg) : Lay 0 (u8s d.1) (u8s e.1) (u8s d.1) := lay_all (by rw [dig_len, dig_len])
section
variable {l : Env} {F : PH} {H Hr : List Asrt} {dd : Option Nat} {T' U E : TypeId} {pos : String} {af : Array Edge} {g : Option (Nat × Bool)} {x y : Operand} {b off : Nat} {r : List Value}
theorem ev_ldD {d : Dg} (p : Pick (blk b E r) H Hr) (hx : opv l x = some (.pointer (some ⟨b, off, none⟩))) (ht : (r.drop off).take (u8s d.1).length = u8s d.1) : Ev Try.prog ⟨dd, .load 29 x, U, pos, af, g⟩ l F H d.v :=
  ev_load_agg hx rfl (Rdb.ofB (n := 0) p ht) (dig_len d)
theorem ev_eqD {d e : Dg} (hx : opv l x = some d.v) (hy : opv l y = some e.v) : Ev Try.prog ⟨dd, .binOp .eql 29 x y T', U, pos, af, g⟩ l F H (.bool (decide (d = e))) := by
  have h := ev_arr_eql (P := Try.prog) (F := F) (H := H) (T := 29) (d := dd) (T' := T') (U := U) (pos := pos) (af := af) (gd := g) hx hy rfl rfl d.2 e.2 (by kernel_rfl)
  rw [show (d.1 == e.1) = decide (d = e) from by rw [Bool.eq_iff_iff]; simp [Subtype.ext_iff]] at h
  exact h
theorem ev_neD {d e : Dg} (hx : opv l x = some d.v) (hy : opv l y = some e.v) : Ev Try.prog ⟨dd, .binOp .neq 29 x y T', U, pos, af, g⟩ l F H (.bool (!decide (d = e))) := by
  have h := ev_arr_neq (P := Try.prog) (F := F) (H := H) (T := 29) (d := dd) (T' := T') (U := U) (pos := pos) (af := af) (gd := g) hx hy rfl rfl d.2 e.2 (by kernel_rfl)
  rw [show (d.1 == e.1) = decide (d = e) from by rw [Bool.eq_iff_iff]; simp [Subtype.ext_iff]] at h
  exact h
end
/-- A tally: its block, and both maps. -/
def TA (b bv bc : Nat) (vs : Vts) : List Asrt := [blk b 146 [.map (some bv), .map (some bc)], mp keyDg bc (cntM vs), mp keyI bv (voM vs)]
def pT (b : Nat) : Value := .pointer (some ⟨b, 0, none⟩)
theorem tnew_spec (F : PH) : Spec Try.prog 41 [] F [] fun u _ H' => ∃ b bv bc, u = pT b ∧ H' = TA b bv bc [] := by
  refine Spec.of0 Try.func41 rfl fun X w0 => ?_
  repeat (first|refine zJ rfl rfl ?_|refine jr rfl ?_|refine jn ?_|refine zM rfl rfl ?_|(refine zC rfl rfl ?_ rfl ?_;omega)|(refine zD rfl rfl ?_ rfl ?_;omega)|(refine zP rfl ?_ rfl ?_;omega)|refine zG rfl rfl rfl rfl ?_|(refine jdq rfl rfl ?_ ?_ ?_;kernel_rfl;kernel_rfl)|refine zB rfl rfl rfl (by repeat constructor) rfl ?_|refine zH .here rfl rfl rfl rfl ?_|refine zH (.there .here) rfl rfl rfl rfl ?_|refine zH (.there (.there .here)) rfl rfl rfl rfl ?_|refine zH (.there (.there (.there .here))) rfl rfl rfl rfl ?_|refine zH (.there (.there (.there (.there .here)))) rfl rfl rfl rfl ?_)
  refine oE (ev_makeMap (K := keyI)) rfl ?_
  rintro _ _ _ _ ⟨rfl, bv, rfl, rfl⟩
  refine oE (ev_makeMap (K := keyDg)) rfl ?_
  rintro _ _ _ _ ⟨rfl, bc, rfl, rfl⟩
  repeat (first|refine zJ rfl rfl ?_|refine jr rfl ?_|refine jn ?_|refine zM rfl rfl ?_|(refine zC rfl rfl ?_ rfl ?_;omega)|(refine zD rfl rfl ?_ rfl ?_;omega)|(refine zP rfl ?_ rfl ?_;omega)|refine zG rfl rfl rfl rfl ?_|(refine jdq rfl rfl ?_ ?_ ?_;kernel_rfl;kernel_rfl)|refine zB rfl rfl rfl (by repeat constructor) rfl ?_|refine zH .here rfl rfl rfl rfl ?_|refine zH (.there .here) rfl rfl rfl rfl ?_|refine zH (.there (.there .here)) rfl rfl rfl rfl ?_|refine zH (.there (.there (.there .here))) rfl rfl rfl rfl ?_|refine zH (.there (.there (.there (.there .here)))) rfl rfl rfl rfl ?_)
  refine oE (ev_box rfl .agg) rfl ?_; rintro _ _ _ _ ⟨rfl, b, rfl, rfl⟩
  repeat (first|refine zJ rfl rfl ?_|refine jr rfl ?_|refine jn ?_|refine zM rfl rfl ?_|(refine zC rfl rfl ?_ rfl ?_;omega)|(refine zD rfl rfl ?_ rfl ?_;omega)|(refine zP rfl ?_ rfl ?_;omega)|refine zG rfl rfl rfl rfl ?_|(refine jdq rfl rfl ?_ ?_ ?_;kernel_rfl;kernel_rfl)|refine zB rfl rfl rfl (by repeat constructor) rfl ?_|refine zH .here rfl rfl rfl rfl ?_|refine zH (.there .here) rfl rfl rfl rfl ?_|refine zH (.there (.there .here)) rfl rfl rfl rfl ?_|refine zH (.there (.there (.there .here))) rfl rfl rfl rfl ?_|refine zH (.there (.there (.there (.there .here)))) rfl rfl rfl rfl ?_)
  exact J_retv rfl (.tmp rfl .nil) _ (fun w s => s) (PH.ler _) ⟨b, bv, bc, rfl, rfl⟩
end Go.Proofs.Ytdoaloimndehbaa
