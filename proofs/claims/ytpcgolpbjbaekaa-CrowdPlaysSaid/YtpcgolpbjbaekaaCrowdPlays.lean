/-
  Whatever is put and taken, one behind the other, each answer is the document's, and who is there (CrowdPlays). No condition.
-/
import Derived.Test.YtpcgolpbjbaekaaCf
import Derived.Lib.Hide
namespace Go.Proofs.Ytpcgolpbjbaekaa
open Go.RowKit
set_option maxRecDepth 100000
theorem own_knob : ownKnob Try.prog.godebug = none := by kernel_rfl
theorem laid_out : laidOutB Try.prog = true := by kernel_rfl
/-- A row's cells: from whom, and the parcel's. -/
def SentOk (F : PH) (c : List Value) : Prop := ∃ (f : Int) (d : List Value), c = .int .i64 f :: d ∧ ParOk F d
theorem SentOk.mono {F G : PH} {c : List Value} (h : SentOk F c) (hl : F.le G) : SentOk G c := by
  obtain ⟨f, d, e, h⟩ := h
  exact ⟨f, d, e, h.mono hl⟩
theorem SentOk.len {F : PH} {c : List Value} (h : SentOk F c) : c.length = 6 := by
  obtain ⟨f, d, rfl, h⟩ := h
  rw [List.length_cons, h.len]
theorem SentOk.ones {F : PH} {c : List Value} (h : SentOk F c) : Ones c := by
  obtain ⟨f, d, rfl, h⟩ := h
  exact ones_cons rfl h.ones
theorem flat_ones {css : List (List Value)} (h : ∀ c ∈ css, Ones c) : Ones css.flatten := fun u hu => by
  obtain ⟨c, hc, hu⟩ := List.mem_flatten.1 hu
  exact h c hc u hu
def putR (f : Int) (css : List (List Value)) : List (List Value) := css.map fun c => .int .i64 f :: c
theorem puts_flat (f : Int) (css : List (List Value)) : puts f css = (putR f css).flatten := rfl
theorem flat_erase {R : List (List Value)} (h : ∀ c ∈ R, c.length = 6) (i : Nat) (hi : i < R.length) : R.flatten.take (i * 6) ++ R.flatten.drop ((i + 1) * 6) = (R.eraseIdx i).flatten := by
  rw [flat_take i h, flat_drop (i + 1) h, List.eraseIdx_eq_take_drop_succ, List.flatten_append]
/-- The crowd, and the document's row, after some acts. -/
structure St where
  G : PH
  R : List (List Value)
  v : Value
  rv : Value
def StOk (F : PH) (i : Nat) (t : St) : Prop := F.le t.G ∧ (∀ c ∈ t.R, SentOk t.G c) ∧ SliceV t.G 6 t.rv t.R.length t.R.flatten ∧ t.R.length ≤ 20 * i
theorem acts_of {F : PH} {x : ActX} {cs : List Value} (h : tyAct.rep F x cs) : ∃ (k f i : Int) (v : Value), cs = [.int .u8 k, .int .i64 f, v, .int .i64 i] ∧ InK .u8 k ∧ RowV tyPar F v x.2.2.1 := by
  obtain ⟨_, _, rfl, ⟨rfl, hk⟩, _, _, rfl, ⟨rfl, _⟩, _, _, rfl, ⟨v, rfl, hr⟩, _, _, rfl, ⟨rfl, _⟩, rfl⟩ := h
  exact ⟨_, _, _, v, rfl, hk, hr⟩
section
variable {P : Program} {l : Env} {F : PH} {H : List Asrt} {d : Option Nat} {T T' U : TypeId} {pos : String} {af : Array Edge} {g : Option (Nat × Bool)} {x y : Operand}
theorem ev_bool_ne_same {a : Bool} (hx : opv l x = some (.bool a)) (hy : opv l y = some (.bool a)) (hu : P.underlying T = some .bool) : Ev P ⟨d, .binOp .neq T x y T', U, pos, af, g⟩ l F H (.bool false) := by
  have h := ev_bool_neq (F := F) (H := H) (d := d) (T' := T') (U := U) (pos := pos) (af := af) (g := g) hx hy hu
  rw [show (!(a == a)) = false from by cases a <;> rfl] at h
  exact h
end
theorem pars_of {F : PH} {v : Value} {xs : List ParX} (h : RowV tyPar F v xs) : ∃ css : List (List Value), SliceV F 5 v xs.length css.flatten ∧ css.length = xs.length ∧ ∀ c ∈ css, ParOk F c := by
  obtain ⟨css, h1, h2⟩ := h
  refine ⟨css, h1, h2.len1.symm, fun c hc => ?_⟩
  obtain ⟨x, _, hx⟩ := h2.right c hc
  exact par_of hx
set_option maxHeartbeats 16000000 in
theorem CrowdPlays_walk (a : Option Addr) (c : Nat) (xs : List ActX) (F : PH) (h : RowV tyAct F (.slice a xs.length c) xs) : Pure Try.prog 7 [.slice a xs.length c] F (.bool true) := by
  refine Spec.of1 Try.func7 rfl rfl fun X w0 => ?_
  repeat (first|refine zJ rfl rfl ?_|refine jr rfl ?_|refine jn ?_|refine zM rfl rfl ?_|(refine zC rfl rfl ?_ rfl ?_;omega)|(refine zD rfl rfl ?_ rfl ?_;omega)|(refine zP rfl ?_ rfl ?_;omega)|refine zG rfl rfl rfl rfl ?_|(refine jdq rfl rfl ?_ ?_ ?_;kernel_rfl;kernel_rfl)|refine zB rfl rfl rfl (by repeat constructor) rfl ?_|refine zH .here rfl rfl rfl rfl ?_|refine zH (.there .here) rfl rfl rfl rfl ?_|refine zH (.there (.there .here)) rfl rfl rfl rfl ?_)
  refine oC (Hc := []) (Hr := X) (fixed32 F) Try.call8 rfl rfl (fun _ s => s) ?_
  rintro _ F1 _ hF1 ⟨rfl, rfl⟩
  repeat (first|refine zJ rfl rfl ?_|refine jr rfl ?_|refine jn ?_|refine zM rfl rfl ?_|(refine zC rfl rfl ?_ rfl ?_;omega)|(refine zD rfl rfl ?_ rfl ?_;omega)|(refine zP rfl ?_ rfl ?_;omega)|refine zG rfl rfl rfl rfl ?_|(refine jdq rfl rfl ?_ ?_ ?_;kernel_rfl;kernel_rfl)|refine zB rfl rfl rfl (by repeat constructor) rfl ?_|refine zH .here rfl rfl rfl rfl ?_|refine zH (.there .here) rfl rfl rfl rfl ?_|refine zH (.there (.there .here)) rfl rfl rfl rfl ?_)
  by_cases hl : 80 < xs.length
  · rw [decide_eq_true (show (80 : Int) < (xs.length : Int) by omega)]
    repeat (first|refine zJ rfl rfl ?_|refine jr rfl ?_|refine jn ?_|refine zM rfl rfl ?_|(refine zC rfl rfl ?_ rfl ?_;omega)|(refine zD rfl rfl ?_ rfl ?_;omega)|(refine zP rfl ?_ rfl ?_;omega)|refine zG rfl rfl rfl rfl ?_|(refine jdq rfl rfl ?_ ?_ ?_;kernel_rfl;kernel_rfl)|refine zB rfl rfl rfl (by repeat constructor) rfl ?_|refine zH .here rfl rfl rfl rfl ?_|refine zH (.there .here) rfl rfl rfl rfl ?_|refine zH (.there (.there .here)) rfl rfl rfl rfl ?_)
    exact J_retv rfl (.tmp rfl .nil) [] (fun w s => s) hF1 ⟨rfl, rfl⟩
  rw [decide_eq_false (show ¬ (80 : Int) < (xs.length : Int) by omega)]
  repeat (first|refine zJ rfl rfl ?_|refine jr rfl ?_|refine jn ?_|refine zM rfl rfl ?_|(refine zC rfl rfl ?_ rfl ?_;omega)|(refine zD rfl rfl ?_ rfl ?_;omega)|(refine zP rfl ?_ rfl ?_;omega)|refine zG rfl rfl rfl rfl ?_|(refine jdq rfl rfl ?_ ?_ ?_;kernel_rfl;kernel_rfl)|refine zB rfl rfl rfl (by repeat constructor) rfl ?_|refine zH .here rfl rfl rfl rfl ?_|refine zH (.there .here) rfl rfl rfl rfl ?_|refine zH (.there (.there .here)) rfl rfl rfl rfl ?_)
  refine oC (Hc := []) (Hr := X) (new_spec F1) Try.call9 rfl rfl (fun w s => s) ?_
  rintro _ _ _ _ ⟨rfl, b, rfl, rfl⟩
  repeat (first|refine zJ rfl rfl ?_|refine jr rfl ?_|refine jn ?_|refine zM rfl rfl ?_|(refine zC rfl rfl ?_ rfl ?_;omega)|(refine zD rfl rfl ?_ rfl ?_;omega)|(refine zP rfl ?_ rfl ?_;omega)|refine zG rfl rfl rfl rfl ?_|(refine jdq rfl rfl ?_ ?_ ?_;kernel_rfl;kernel_rfl)|refine zB rfl rfl rfl (by repeat constructor) rfl ?_|refine zH .here rfl rfl rfl rfl ?_|refine zH (.there .here) rfl rfl rfl rfl ?_|refine zH (.there (.there .here)) rfl rfl rfl rfl ?_)
  refine J_loop2 (fun (i : Nat) (t : St) => i ≤ xs.length ∧ StOk F i t) (fun i _ => xs.length - i) (fun i t => [(3, .pointer (some ⟨b, 0, none⟩)), (4, t.rv), (26, .slice a xs.length c), (27, .int .i64 xs.length), (28, .int .i64 i)]) (fun _ t => t.G) (fun _ t => crowd b t.v t.R.length t.R.flatten ++ X) 0 ⟨F1, [], .slice none 0 0, .slice none 0 0⟩
    ⟨Nat.zero_le _, hF1, (fun _ h => by cases h), SliceV.nil _ _, Nat.zero_le _⟩ ⟨⟨rfl, rfl, rfl, rfl, rfl, trivial⟩, fun w s => s⟩ ?_
  rintro i ⟨G, R, v, rv⟩ ⟨hi, hG, hR, hrv, hlen⟩
  dsimp only at hi hG hR hrv hlen ⊢
  by_cases hlt : i < xs.length
  · have hg : xs[i]? = some xs[i] := List.getElem?_eq_getElem hlt
    obtain ⟨ab, ao, cs, rfl, hcc, hrep, _⟩ := h.at hg
    generalize xs[i] = x at *
    obtain ⟨k, f, at_, lv, rfl, hk, hrow⟩ := acts_of hrep
    obtain ⟨css, hl5, hcl, hpar⟩ := pars_of hrow
    obtain ⟨la, lc, rfl, hlc⟩ := hrow.form
    have hcc' := hcc.mono hG
    dsimp only [InK] at hk
    have hl5' := SliceV.mono hl5 hG
    repeat (first|refine zJ rfl rfl ?_|refine jr rfl ?_|refine jn ?_|refine zM rfl rfl ?_|(refine zC rfl rfl ?_ rfl ?_;omega)|(refine zD rfl rfl ?_ rfl ?_;omega)|(refine zP rfl ?_ rfl ?_;omega)|refine zG rfl rfl rfl rfl ?_|(refine jdq rfl rfl ?_ ?_ ?_;kernel_rfl;kernel_rfl)|refine zB rfl rfl rfl (by repeat constructor) rfl ?_|refine zH .here rfl rfl rfl rfl ?_|refine zH (.there .here) rfl rfl rfl rfl ?_|refine zH (.there (.there .here)) rfl rfl rfl rfl ?_)
    refine oS (ev_indexAddr rfl rfl rfl hlt) rfl ?_
    refine oS (ev_load_agg rfl rfl (Rdb.ofF hcc') rfl) rfl ?_
    refine oE (ev_alloc rfl) rfl ?_; rintro _ _ _ _ ⟨rfl, b6, rfl, rfl⟩; refine oN (ev_store rfl rfl .agg rfl rfl (lay_all ?_) ?_ .here) rfl ?_; rfl; rotate_left; rintro _ _ _ _ ⟨rfl, rfl, rfl⟩; rotate_left
    · (repeat (first | exact ones_nil | refine ones_cons rfl ?_))
    repeat (first|refine zJ rfl rfl ?_|refine jr rfl ?_|refine jn ?_|refine zM rfl rfl ?_|(refine zC rfl rfl ?_ rfl ?_;omega)|(refine zD rfl rfl ?_ rfl ?_;omega)|(refine zP rfl ?_ rfl ?_;omega)|refine zG rfl rfl rfl rfl ?_|(refine jdq rfl rfl ?_ ?_ ?_;kernel_rfl;kernel_rfl)|refine zB rfl rfl rfl (by repeat constructor) rfl ?_|refine zH .here rfl rfl rfl rfl ?_|refine zH (.there .here) rfl rfl rfl rfl ?_|refine zH (.there (.there .here)) rfl rfl rfl rfl ?_)
    by_cases h20 : 20 < x.2.2.1.length
    · rw [decide_eq_true (show (20 : Int) < (x.2.2.1.length : Int) by omega)]
      repeat (first|refine zJ rfl rfl ?_|refine jr rfl ?_|refine jn ?_|refine zM rfl rfl ?_|(refine zC rfl rfl ?_ rfl ?_;omega)|(refine zD rfl rfl ?_ rfl ?_;omega)|(refine zP rfl ?_ rfl ?_;omega)|refine zG rfl rfl rfl rfl ?_|(refine jdq rfl rfl ?_ ?_ ?_;kernel_rfl;kernel_rfl)|refine zB rfl rfl rfl (by repeat constructor) rfl ?_|refine zH .here rfl rfl rfl rfl ?_|refine zH (.there .here) rfl rfl rfl rfl ?_|refine zH (.there (.there .here)) rfl rfl rfl rfl ?_)
      exact J_retv rfl (.tmp rfl .nil) [] (fun w s => s.drop.drop.drop) hG ⟨rfl, rfl⟩
    rw [decide_eq_false (show ¬ (20 : Int) < (x.2.2.1.length : Int) by omega)]
    refine J_cond_f rfl ?_
    refine J_skip ?_
    repeat (first|refine zJ rfl rfl ?_|refine jr rfl ?_|refine jn ?_|refine zM rfl rfl ?_|(refine zC rfl rfl ?_ rfl ?_;omega)|(refine zD rfl rfl ?_ rfl ?_;omega)|(refine zP rfl ?_ rfl ?_;omega)|refine zG rfl rfl rfl rfl ?_|(refine jdq rfl rfl ?_ ?_ ?_;kernel_rfl;kernel_rfl)|refine zB rfl rfl rfl (by repeat constructor) rfl ?_|refine zH .here rfl rfl rfl rfl ?_|refine zH (.there .here) rfl rfl rfl rfl ?_|refine zH (.there (.there .here)) rfl rfl rfl rfl ?_)
    refine J_join [_] (fun t : St => StOk F (i + 1) t) (fun t => [(3, .pointer (some ⟨b, 0, none⟩)), (4, t.rv), (26, .slice (some ⟨ab, ao, none⟩) xs.length c), (27, .int .i64 xs.length), (28, .int .i64 i)]) (fun t => t.G) (fun t => crowd b t.v t.R.length t.R.flatten ++ X) ?_ ?_
    · by_cases hk0 : k % 2 = 0
      · try rw [decide_eq_true hk0]
        repeat (first|refine zJ rfl rfl ?_|refine jr rfl ?_|refine jn ?_|refine zM rfl rfl ?_|(refine zC rfl rfl ?_ rfl ?_;omega)|(refine zD rfl rfl ?_ rfl ?_;omega)|(refine zP rfl ?_ rfl ?_;omega)|refine zG rfl rfl rfl rfl ?_|(refine jdq rfl rfl ?_ ?_ ?_;kernel_rfl;kernel_rfl)|refine zB rfl rfl rfl (by repeat constructor) rfl ?_|refine zH .here rfl rfl rfl rfl ?_|refine zH (.there .here) rfl rfl rfl rfl ?_|refine zH (.there (.there .here)) rfl rfl rfl rfl ?_)
        have hn1 : R.length + x.2.2.1.length ≤ 16384 := by omega
        refine oC (Hc := []) (Hr := blk b6 53 [.int .u8 k, .int .i64 f, .slice la x.2.2.1.length lc, .int .i64 at_] :: (crowd b v R.length R.flatten ++ X)) (refput_spec R.length x.2.2.1.length lc f rv la R.flatten css G hrv (flat_ones fun c hc => (hR c hc).ones) (fun c hc => ⟨(hpar c hc).len, (hpar c hc).ones⟩) hl5' hcl hn1) Try.call27 rfl rfl (fun _ s => s) ?_
        rintro _ G1 _ hG1 ⟨rv1, rfl, hrv1, rfl⟩
        repeat (first|refine zJ rfl rfl ?_|refine jr rfl ?_|refine jn ?_|refine zM rfl rfl ?_|(refine zC rfl rfl ?_ rfl ?_;omega)|(refine zD rfl rfl ?_ rfl ?_;omega)|(refine zP rfl ?_ rfl ?_;omega)|refine zG rfl rfl rfl rfl ?_|(refine jdq rfl rfl ?_ ?_ ?_;kernel_rfl;kernel_rfl)|refine zB rfl rfl rfl (by repeat constructor) rfl ?_|refine zH .here rfl rfl rfl rfl ?_|refine zH (.there .here) rfl rfl rfl rfl ?_|refine zH (.there (.there .here)) rfl rfl rfl rfl ?_)
        refine oC (Hc := crowd b v R.length R.flatten) (Hr := blk b6 53 [.int .u8 k, .int .i64 f, .slice la x.2.2.1.length lc, .int .i64 at_] :: X) (put_spec b x.2.2.1.length R.length lc f v la R.flatten css G1 (fun c hc => ⟨(hpar c hc).len, (hpar c hc).ones⟩) (SliceV.mono hl5' hG1) hcl (by omega) (by omega)) Try.call10 rfl rfl (fun _ s => s.back2) ?_
        rintro _ _ _ _ ⟨rfl, v1, rfl, rfl⟩
        rw [show min x.2.2.1.length (16384 - R.length) = x.2.2.1.length from by omega, List.take_of_length_le (by omega)]
        repeat (first|refine zJ rfl rfl ?_|refine jr rfl ?_|refine jn ?_|refine zM rfl rfl ?_|(refine zC rfl rfl ?_ rfl ?_;omega)|(refine zD rfl rfl ?_ rfl ?_;omega)|(refine zP rfl ?_ rfl ?_;omega)|refine zG rfl rfl rfl rfl ?_|(refine jdq rfl rfl ?_ ?_ ?_;kernel_rfl;kernel_rfl)|refine zB rfl rfl rfl (by repeat constructor) rfl ?_|refine zH .here rfl rfl rfl rfl ?_|refine zH (.there .here) rfl rfl rfl rfl ?_|refine zH (.there (.there .here)) rfl rfl rfl rfl ?_)
        refine J_joined ⟨G1, R ++ putR f css, v1, rv1⟩ ⟨hG.trans hG1, ?_, ?_, ?_⟩ ⟨⟨rfl, rfl, rfl, rfl, rfl, trivial⟩, fun w s => ?_⟩
        · intro c hc
          rcases List.mem_append.1 hc with hc | hc
          · exact (hR c hc).mono hG1
          · obtain ⟨d, hd, rfl⟩ := List.mem_map.1 hc
            exact ⟨f, d, rfl, (hpar d hd).mono (hG.trans hG1)⟩
        · have e : (R ++ putR f css).length = R.length + x.2.2.1.length := by rw [List.length_append, ← hcl]; simp [putR]
          dsimp only
          rw [e, List.flatten_append]
          exact hrv1
        · dsimp only
          rw [List.length_append, show (putR f css).length = x.2.2.1.length from by rw [← hcl]; simp [putR]]
          omega
        · have e : (R ++ putR f css).length = R.length + x.2.2.1.length := by rw [List.length_append, ← hcl]; simp [putR]
          dsimp only
          rw [e, List.flatten_append]
          exact (s.pick (.there (.there .here))).drop
      · try rw [decide_eq_false hk0]
        repeat (first|refine zJ rfl rfl ?_|refine jr rfl ?_|refine jn ?_|refine zM rfl rfl ?_|(refine zC rfl rfl ?_ rfl ?_;omega)|(refine zD rfl rfl ?_ rfl ?_;omega)|(refine zP rfl ?_ rfl ?_;omega)|refine zG rfl rfl rfl rfl ?_|(refine jdq rfl rfl ?_ ?_ ?_;kernel_rfl;kernel_rfl)|refine zB rfl rfl rfl (by repeat constructor) rfl ?_|refine zH .here rfl rfl rfl rfl ?_|refine zH (.there .here) rfl rfl rfl rfl ?_|refine zH (.there (.there .here)) rfl rfl rfl rfl ?_)
        by_cases hin : 0 ≤ at_ ∧ at_ < (R.length : Int)
        · obtain ⟨j, rfl⟩ := Int.eq_ofNat_of_zero_le hin.1
          have hj : j < R.length := by omega
          have hrow6 : (R.flatten.drop (j * 6)).take 6 = R[j] := flat_at (fun c hc => (hR c hc).len) (List.getElem?_eq_getElem hj)
          have hso := hR R[j] (List.getElem_mem hj)
          have hfo : Ones R.flatten := flat_ones fun c hc => (hR c hc).ones
          obtain ⟨rf, rd, hrd, hpo⟩ := id hso
          rw [hrd] at hrow6
          have h6 : (.int .i64 rf :: rd : List Value).length = 6 := by rw [List.length_cons, hpo.len]
          refine oC (Hc := []) (Hr := blk b6 53 [.int .u8 k, .int .i64 f, .slice la x.2.2.1.length lc, .int .i64 ↑j] :: (crowd b v R.length R.flatten ++ X)) (reftake_yes R.length j rv R.flatten _ G hrv hfo hj (by omega) hrow6) Try.call28 rfl rfl (fun _ s => s) ?_
          rintro _ G1 _ hG1 ⟨rv1, rfl, hrv1, rfl⟩
          repeat (first|refine zJ rfl rfl ?_|refine jr rfl ?_|refine jn ?_|refine zM rfl rfl ?_|(refine zC rfl rfl ?_ rfl ?_;omega)|(refine zD rfl rfl ?_ rfl ?_;omega)|(refine zP rfl ?_ rfl ?_;omega)|refine zG rfl rfl rfl rfl ?_|(refine jdq rfl rfl ?_ ?_ ?_;kernel_rfl;kernel_rfl)|refine zB rfl rfl rfl (by repeat constructor) rfl ?_|refine zH .here rfl rfl rfl rfl ?_|refine zH (.there .here) rfl rfl rfl rfl ?_|refine zH (.there (.there .here)) rfl rfl rfl rfl ?_)
          refine oE (ev_alloc (cs := zSent) rfl) rfl ?_
          rintro _ _ _ _ ⟨rfl, b9, rfl, rfl⟩
          repeat (first|refine zJ rfl rfl ?_|refine jr rfl ?_|refine jn ?_|refine zM rfl rfl ?_|(refine zC rfl rfl ?_ rfl ?_;omega)|(refine zD rfl rfl ?_ rfl ?_;omega)|(refine zP rfl ?_ rfl ?_;omega)|refine zG rfl rfl rfl rfl ?_|(refine jdq rfl rfl ?_ ?_ ?_;kernel_rfl;kernel_rfl)|refine zB rfl rfl rfl (by repeat constructor) rfl ?_|refine zH .here rfl rfl rfl rfl ?_|refine zH (.there .here) rfl rfl rfl rfl ?_|refine zH (.there (.there .here)) rfl rfl rfl rfl ?_)
          refine oN (ev_store (b := b9) rfl rfl .agg rfl h6 (lay_all (zs := zSent) h6) (ones_cons rfl hpo.ones) .here) rfl ?_
          rintro _ _ _ _ ⟨rfl, _, rfl⟩
          repeat (first|refine zJ rfl rfl ?_|refine jr rfl ?_|refine jn ?_|refine zM rfl rfl ?_|(refine zC rfl rfl ?_ rfl ?_;omega)|(refine zD rfl rfl ?_ rfl ?_;omega)|(refine zP rfl ?_ rfl ?_;omega)|refine zG rfl rfl rfl rfl ?_|(refine jdq rfl rfl ?_ ?_ ?_;kernel_rfl;kernel_rfl)|refine zB rfl rfl rfl (by repeat constructor) rfl ?_|refine zH .here rfl rfl rfl rfl ?_|refine zH (.there .here) rfl rfl rfl rfl ?_|refine zH (.there (.there .here)) rfl rfl rfl rfl ?_)
          refine oC (Hc := crowd b v R.length R.flatten) (Hr := blk b9 35 (.int .i64 rf :: rd) :: blk b6 53 [.int .u8 k, .int .i64 f, .slice la x.2.2.1.length lc, .int .i64 ↑j] :: X) (take_yes b R.length j v R.flatten _ hj (by omega) hrow6 h6 hfo G1) Try.call29 rfl rfl (fun _ s => s.pm 4 [2, 3, 0, 1] rfl rfl) ?_
          rintro _ _ _ _ ⟨rfl, rfl, v1, rfl⟩
          repeat (first|refine zJ rfl rfl ?_|refine jr rfl ?_|refine jn ?_|refine zM rfl rfl ?_|(refine zC rfl rfl ?_ rfl ?_;omega)|(refine zD rfl rfl ?_ rfl ?_;omega)|(refine zP rfl ?_ rfl ?_;omega)|refine zG rfl rfl rfl rfl ?_|(refine jdq rfl rfl ?_ ?_ ?_;kernel_rfl;kernel_rfl)|refine zB rfl rfl rfl (by repeat constructor) rfl ?_|refine zH .here rfl rfl rfl rfl ?_|refine zH (.there .here) rfl rfl rfl rfl ?_|refine zH (.there (.there .here)) rfl rfl rfl rfl ?_)
          refine oE (ev_alloc (cs := zSent) rfl) rfl ?_
          rintro _ _ _ _ ⟨rfl, b11, rfl, rfl⟩
          refine oN (ev_store (b := b11) rfl rfl .agg rfl h6 (lay_all (zs := zSent) h6) (ones_cons rfl hpo.ones) .here) rfl ?_
          rintro _ _ _ _ ⟨rfl, _, rfl⟩
          repeat (first|refine zJ rfl rfl ?_|refine jr rfl ?_|refine jn ?_|refine zM rfl rfl ?_|(refine zC rfl rfl ?_ rfl ?_;omega)|(refine zD rfl rfl ?_ rfl ?_;omega)|(refine zP rfl ?_ rfl ?_;omega)|refine zG rfl rfl rfl rfl ?_|(refine jdq rfl rfl ?_ ?_ ?_;kernel_rfl;kernel_rfl)|refine zB rfl rfl rfl (by repeat constructor) rfl ?_|refine zH .here rfl rfl rfl rfl ?_|refine zH (.there .here) rfl rfl rfl rfl ?_|refine zH (.there (.there .here)) rfl rfl rfl rfl ?_)
          refine oS (ev_bool_ne_same rfl rfl rfl) rfl ?_
          repeat (first|refine zJ rfl rfl ?_|refine jr rfl ?_|refine jn ?_|refine zM rfl rfl ?_|(refine zC rfl rfl ?_ rfl ?_;omega)|(refine zD rfl rfl ?_ rfl ?_;omega)|(refine zP rfl ?_ rfl ?_;omega)|refine zG rfl rfl rfl rfl ?_|(refine jdq rfl rfl ?_ ?_ ?_;kernel_rfl;kernel_rfl)|refine zB rfl rfl rfl (by repeat constructor) rfl ?_|refine zH .here rfl rfl rfl rfl ?_|refine zH (.there .here) rfl rfl rfl rfl ?_|refine zH (.there (.there .here)) rfl rfl rfl rfl ?_)
          refine oS (ev_load_agg (cs := .int .i64 rf :: rd) rfl rfl (Rdb.ofB (n := 0) (.there (.there (.there .here))) (by rw [List.drop_zero, List.take_length])) h6) rfl ?_
          refine oS (ev_load_agg (cs := .int .i64 rf :: rd) rfl rfl (Rdb.ofB (n := 0) .here (by rw [List.drop_zero, List.take_length])) h6) rfl ?_
          refine oP (same_spec rf rd G1 (hpo.mono hG1)) Try.call30 rfl rfl ?_
          repeat (first|refine zJ rfl rfl ?_|refine jr rfl ?_|refine jn ?_|refine zM rfl rfl ?_|(refine zC rfl rfl ?_ rfl ?_;omega)|(refine zD rfl rfl ?_ rfl ?_;omega)|(refine zP rfl ?_ rfl ?_;omega)|refine zG rfl rfl rfl rfl ?_|(refine jdq rfl rfl ?_ ?_ ?_;kernel_rfl;kernel_rfl)|refine zB rfl rfl rfl (by repeat constructor) rfl ?_|refine zH .here rfl rfl rfl rfl ?_|refine zH (.there .here) rfl rfl rfl rfl ?_|refine zH (.there (.there .here)) rfl rfl rfl rfl ?_)
          have he : (R.eraseIdx j).length = R.length - 1 := by rw [List.length_eraseIdx, if_pos hj]
          rw [flat_erase (fun c hc => (hR c hc).len) j hj] at hrv1 ⊢
          refine J_joined ⟨G1, R.eraseIdx j, v1, rv1⟩ ⟨hG.trans hG1, ?_, ?_, ?_⟩ ⟨⟨rfl, rfl, rfl, rfl, rfl, trivial⟩, fun w s => ?_⟩
          · exact fun c hc => (hR c (List.mem_of_mem_eraseIdx hc)).mono hG1
          · dsimp only
            rw [he]
            exact hrv1
          · dsimp only
            rw [he]
            omega
          · dsimp only
            rw [he]
            exact (s.pm 5 [0, 3, 4, 1, 2] rfl rfl).drop.drop.drop
        · have hin' : at_ < 0 ∨ (R.length : Int) ≤ at_ := by omega
          refine oC (Hc := []) (Hr := blk b6 53 [.int .u8 k, .int .i64 f, .slice la x.2.2.1.length lc, .int .i64 at_] :: (crowd b v R.length R.flatten ++ X)) (reftake_no R.length at_ rv R.flatten G hrv (by omega)) Try.call28 rfl rfl (fun _ s => s) ?_
          rintro _ G1 _ hG1 ⟨rfl, rfl⟩
          repeat (first|refine zJ rfl rfl ?_|refine jr rfl ?_|refine jn ?_|refine zM rfl rfl ?_|(refine zC rfl rfl ?_ rfl ?_;omega)|(refine zD rfl rfl ?_ rfl ?_;omega)|(refine zP rfl ?_ rfl ?_;omega)|refine zG rfl rfl rfl rfl ?_|(refine jdq rfl rfl ?_ ?_ ?_;kernel_rfl;kernel_rfl)|refine zB rfl rfl rfl (by repeat constructor) rfl ?_|refine zH .here rfl rfl rfl rfl ?_|refine zH (.there .here) rfl rfl rfl rfl ?_|refine zH (.there (.there .here)) rfl rfl rfl rfl ?_)
          refine oE (ev_alloc (cs := zSent) rfl) rfl ?_
          rintro _ _ _ _ ⟨rfl, b9, rfl, rfl⟩
          repeat (first|refine zJ rfl rfl ?_|refine jr rfl ?_|refine jn ?_|refine zM rfl rfl ?_|(refine zC rfl rfl ?_ rfl ?_;omega)|(refine zD rfl rfl ?_ rfl ?_;omega)|(refine zP rfl ?_ rfl ?_;omega)|refine zG rfl rfl rfl rfl ?_|(refine jdq rfl rfl ?_ ?_ ?_;kernel_rfl;kernel_rfl)|refine zB rfl rfl rfl (by repeat constructor) rfl ?_|refine zH .here rfl rfl rfl rfl ?_|refine zH (.there .here) rfl rfl rfl rfl ?_|refine zH (.there (.there .here)) rfl rfl rfl rfl ?_)
          refine oN (ev_store (b := b9) rfl rfl .agg rfl rfl (lay_all (zs := zSent) rfl) ones_zSent .here) rfl ?_
          rintro _ _ _ _ ⟨rfl, _, rfl⟩
          repeat (first|refine zJ rfl rfl ?_|refine jr rfl ?_|refine jn ?_|refine zM rfl rfl ?_|(refine zC rfl rfl ?_ rfl ?_;omega)|(refine zD rfl rfl ?_ rfl ?_;omega)|(refine zP rfl ?_ rfl ?_;omega)|refine zG rfl rfl rfl rfl ?_|(refine jdq rfl rfl ?_ ?_ ?_;kernel_rfl;kernel_rfl)|refine zB rfl rfl rfl (by repeat constructor) rfl ?_|refine zH .here rfl rfl rfl rfl ?_|refine zH (.there .here) rfl rfl rfl rfl ?_|refine zH (.there (.there .here)) rfl rfl rfl rfl ?_)
          refine oC (Hc := crowd b v R.length R.flatten) (Hr := blk b9 35 (.int .i64 0 :: zParcel) :: blk b6 53 [.int .u8 k, .int .i64 f, .slice la x.2.2.1.length lc, .int .i64 at_] :: X) (take_no b R.length at_ v R.flatten (by omega) G1) Try.call29 rfl rfl (fun _ s => s.pm 4 [2, 3, 0, 1] rfl rfl) ?_
          rintro _ _ _ _ ⟨rfl, rfl, rfl⟩
          repeat (first|refine zJ rfl rfl ?_|refine jr rfl ?_|refine jn ?_|refine zM rfl rfl ?_|(refine zC rfl rfl ?_ rfl ?_;omega)|(refine zD rfl rfl ?_ rfl ?_;omega)|(refine zP rfl ?_ rfl ?_;omega)|refine zG rfl rfl rfl rfl ?_|(refine jdq rfl rfl ?_ ?_ ?_;kernel_rfl;kernel_rfl)|refine zB rfl rfl rfl (by repeat constructor) rfl ?_|refine zH .here rfl rfl rfl rfl ?_|refine zH (.there .here) rfl rfl rfl rfl ?_|refine zH (.there (.there .here)) rfl rfl rfl rfl ?_)
          refine oE (ev_alloc (cs := zSent) rfl) rfl ?_
          rintro _ _ _ _ ⟨rfl, b11, rfl, rfl⟩
          refine oN (ev_store (b := b11) rfl rfl .agg rfl rfl (lay_all (zs := zSent) rfl) ones_zSent .here) rfl ?_
          rintro _ _ _ _ ⟨rfl, _, rfl⟩
          repeat (first|refine zJ rfl rfl ?_|refine jr rfl ?_|refine jn ?_|refine zM rfl rfl ?_|(refine zC rfl rfl ?_ rfl ?_;omega)|(refine zD rfl rfl ?_ rfl ?_;omega)|(refine zP rfl ?_ rfl ?_;omega)|refine zG rfl rfl rfl rfl ?_|(refine jdq rfl rfl ?_ ?_ ?_;kernel_rfl;kernel_rfl)|refine zB rfl rfl rfl (by repeat constructor) rfl ?_|refine zH .here rfl rfl rfl rfl ?_|refine zH (.there .here) rfl rfl rfl rfl ?_|refine zH (.there (.there .here)) rfl rfl rfl rfl ?_)
          refine oS (ev_bool_ne_same rfl rfl rfl) rfl ?_
          repeat (first|refine zJ rfl rfl ?_|refine jr rfl ?_|refine jn ?_|refine zM rfl rfl ?_|(refine zC rfl rfl ?_ rfl ?_;omega)|(refine zD rfl rfl ?_ rfl ?_;omega)|(refine zP rfl ?_ rfl ?_;omega)|refine zG rfl rfl rfl rfl ?_|(refine jdq rfl rfl ?_ ?_ ?_;kernel_rfl;kernel_rfl)|refine zB rfl rfl rfl (by repeat constructor) rfl ?_|refine zH .here rfl rfl rfl rfl ?_|refine zH (.there .here) rfl rfl rfl rfl ?_|refine zH (.there (.there .here)) rfl rfl rfl rfl ?_)
          refine oS (ev_load_agg (cs := .int .i64 0 :: zParcel) rfl rfl (Rdb.ofB (n := 0) (.there (.there (.there .here))) rfl) rfl) rfl ?_
          refine oS (ev_load_agg (cs := .int .i64 0 :: zParcel) rfl rfl (Rdb.ofB (n := 0) .here rfl) rfl) rfl ?_
          refine oP (same_spec 0 zParcel G1 (zPar_ok G1)) Try.call30 rfl rfl ?_
          repeat (first|refine zJ rfl rfl ?_|refine jr rfl ?_|refine jn ?_|refine zM rfl rfl ?_|(refine zC rfl rfl ?_ rfl ?_;omega)|(refine zD rfl rfl ?_ rfl ?_;omega)|(refine zP rfl ?_ rfl ?_;omega)|refine zG rfl rfl rfl rfl ?_|(refine jdq rfl rfl ?_ ?_ ?_;kernel_rfl;kernel_rfl)|refine zB rfl rfl rfl (by repeat constructor) rfl ?_|refine zH .here rfl rfl rfl rfl ?_|refine zH (.there .here) rfl rfl rfl rfl ?_|refine zH (.there (.there .here)) rfl rfl rfl rfl ?_)
          refine J_joined ⟨G1, R, v, rv⟩ ⟨hG.trans hG1, fun c hc => (hR c hc).mono hG1, SliceV.mono hrv hG1, by dsimp only; omega⟩ ⟨⟨rfl, rfl, rfl, rfl, rfl, trivial⟩, fun w s => ?_⟩
          exact (s.pm 5 [0, 3, 4, 1, 2] rfl rfl).drop.drop.drop
    · rintro ⟨G1, R1, v1, rv1⟩ ⟨hG1, hR1, hrv1, hlen1⟩
      dsimp only at hG1 hR1 hrv1 hlen1 ⊢
      obtain ⟨_, ar, kr, rfl, hkr, _⟩ := id hrv1
      repeat (first|refine zJ rfl rfl ?_|refine jr rfl ?_|refine jn ?_|refine zM rfl rfl ?_|(refine zC rfl rfl ?_ rfl ?_;omega)|(refine zD rfl rfl ?_ rfl ?_;omega)|(refine zP rfl ?_ rfl ?_;omega)|refine zG rfl rfl rfl rfl ?_|(refine jdq rfl rfl ?_ ?_ ?_;kernel_rfl;kernel_rfl)|refine zB rfl rfl rfl (by repeat constructor) rfl ?_|refine zH .here rfl rfl rfl rfl ?_|refine zH (.there .here) rfl rfl rfl rfl ?_|refine zH (.there (.there .here)) rfl rfl rfl rfl ?_)
      refine oOwn (v := v1) (.there .here) fun a1 k1 hv1 _ _ _ => ?_
      subst hv1
      refine oC (Hc := [blk b 62 [.slice a1 R1.length k1]]) (Hr := own (.slice a1 R1.length k1) 35 6 R1.length R1.flatten :: X) (len_spec b R1.length _ [] G1 a1 k1 rfl) Try.call12 rfl rfl (fun w s => s) ?_
      rintro _ _ _ _ ⟨rfl, rfl, rfl⟩
      repeat (first|refine zJ rfl rfl ?_|refine jr rfl ?_|refine jn ?_|refine zM rfl rfl ?_|(refine zC rfl rfl ?_ rfl ?_;omega)|(refine zD rfl rfl ?_ rfl ?_;omega)|(refine zP rfl ?_ rfl ?_;omega)|refine zG rfl rfl rfl rfl ?_|(refine jdq rfl rfl ?_ ?_ ?_;kernel_rfl;kernel_rfl)|refine zB rfl rfl rfl (by repeat constructor) rfl ?_|refine zH .here rfl rfl rfl rfl ?_|refine zH (.there .here) rfl rfl rfl rfl ?_|refine zH (.there (.there .here)) rfl rfl rfl rfl ?_)
      refine J_loop2 (fun (j : Nat) (G2 : PH) => j ≤ R1.length ∧ G1.le G2) (fun j _ => R1.length - j) (fun j _ => [(3, .pointer (some ⟨b, 0, none⟩)), (4, .slice ar R1.length kr), (26, .slice (some ⟨ab, ao, none⟩) xs.length c), (27, .int .i64 xs.length), (28, .int .i64 i), (87, .slice ar R1.length kr), (88, .int .i64 R1.length), (89, .int .i64 j)]) (fun _ G2 => G2) (fun _ _ => crowd b (.slice a1 R1.length k1) R1.length R1.flatten ++ X) 0 G1 ⟨Nat.zero_le _, PH.ler _⟩
        ⟨⟨rfl, rfl, rfl, rfl, rfl, rfl, rfl, rfl, trivial⟩, fun _ s => s⟩ ?_
      rintro j G2 ⟨hj, hG2⟩
      by_cases hjl : j < R1.length
      · have hrow6 : (R1.flatten.drop (j * 6)).take 6 = R1[j] := flat_at (fun c hc => (hR1 c hc).len) (List.getElem?_eq_getElem hjl)
        obtain ⟨rf, rd, hrd, hpo⟩ := hR1 R1[j] (List.getElem_mem hjl)
        rw [hrd] at hrow6
        have h6 : (.int .i64 rf :: rd : List Value).length = 6 := by rw [List.length_cons, hpo.len]
        obtain ⟨br, or, rfl, hcr, _⟩ := (SliceV.mono hrv1 hG2).at6 hjl
        rw [hrow6] at hcr
        repeat (first|refine zJ rfl rfl ?_|refine jr rfl ?_|refine jn ?_|refine zM rfl rfl ?_|(refine zC rfl rfl ?_ rfl ?_;omega)|(refine zD rfl rfl ?_ rfl ?_;omega)|(refine zP rfl ?_ rfl ?_;omega)|refine zG rfl rfl rfl rfl ?_|(refine jdq rfl rfl ?_ ?_ ?_;kernel_rfl;kernel_rfl)|refine zB rfl rfl rfl (by repeat constructor) rfl ?_|refine zH .here rfl rfl rfl rfl ?_|refine zH (.there .here) rfl rfl rfl rfl ?_|refine zH (.there (.there .here)) rfl rfl rfl rfl ?_)
        refine oS (ev_indexAddr rfl rfl rfl hjl) rfl ?_
        refine oS (ev_load_agg rfl rfl (Rdb.ofF hcr) h6) rfl ?_
        refine oE (ev_alloc (cs := zSent) rfl) rfl ?_
        rintro _ _ _ _ ⟨rfl, b14, rfl, rfl⟩
        repeat (first|refine zJ rfl rfl ?_|refine jr rfl ?_|refine jn ?_|refine zM rfl rfl ?_|(refine zC rfl rfl ?_ rfl ?_;omega)|(refine zD rfl rfl ?_ rfl ?_;omega)|(refine zP rfl ?_ rfl ?_;omega)|refine zG rfl rfl rfl rfl ?_|(refine jdq rfl rfl ?_ ?_ ?_;kernel_rfl;kernel_rfl)|refine zB rfl rfl rfl (by repeat constructor) rfl ?_|refine zH .here rfl rfl rfl rfl ?_|refine zH (.there .here) rfl rfl rfl rfl ?_|refine zH (.there (.there .here)) rfl rfl rfl rfl ?_)
        refine oN (ev_store (b := b14) rfl rfl .agg rfl h6 (lay_all (zs := zSent) h6) (ones_cons rfl hpo.ones) .here) rfl ?_
        rintro _ _ _ _ ⟨rfl, _, rfl⟩
        repeat (first|refine zJ rfl rfl ?_|refine jr rfl ?_|refine jn ?_|refine zM rfl rfl ?_|(refine zC rfl rfl ?_ rfl ?_;omega)|(refine zD rfl rfl ?_ rfl ?_;omega)|(refine zP rfl ?_ rfl ?_;omega)|refine zG rfl rfl rfl rfl ?_|(refine jdq rfl rfl ?_ ?_ ?_;kernel_rfl;kernel_rfl)|refine zB rfl rfl rfl (by repeat constructor) rfl ?_|refine zH .here rfl rfl rfl rfl ?_|refine zH (.there .here) rfl rfl rfl rfl ?_|refine zH (.there (.there .here)) rfl rfl rfl rfl ?_)
        refine oC (Hc := crowd b (.slice a1 R1.length k1) R1.length R1.flatten) (Hr := blk b14 35 (.int .i64 rf :: rd) :: X) (at_yes b R1.length j (.slice a1 R1.length k1) R1.flatten _ hjl (by omega) hrow6 h6 (ones_cons rfl hpo.ones) G2) Try.call11 rfl rfl (fun _ s => s.back2) ?_
        rintro _ _ _ _ ⟨rfl, rfl, rfl⟩
        repeat (first|refine zJ rfl rfl ?_|refine jr rfl ?_|refine jn ?_|refine zM rfl rfl ?_|(refine zC rfl rfl ?_ rfl ?_;omega)|(refine zD rfl rfl ?_ rfl ?_;omega)|(refine zP rfl ?_ rfl ?_;omega)|refine zG rfl rfl rfl rfl ?_|(refine jdq rfl rfl ?_ ?_ ?_;kernel_rfl;kernel_rfl)|refine zB rfl rfl rfl (by repeat constructor) rfl ?_|refine zH .here rfl rfl rfl rfl ?_|refine zH (.there .here) rfl rfl rfl rfl ?_|refine zH (.there (.there .here)) rfl rfl rfl rfl ?_)
        refine oE (ev_alloc (cs := zSent) rfl) rfl ?_
        rintro _ _ _ _ ⟨rfl, b15, rfl, rfl⟩
        refine oN (ev_store (b := b15) rfl rfl .agg rfl h6 (lay_all (zs := zSent) h6) (ones_cons rfl hpo.ones) .here) rfl ?_
        rintro _ _ _ _ ⟨rfl, _, rfl⟩
        repeat (first|refine zJ rfl rfl ?_|refine jr rfl ?_|refine jn ?_|refine zM rfl rfl ?_|(refine zC rfl rfl ?_ rfl ?_;omega)|(refine zD rfl rfl ?_ rfl ?_;omega)|(refine zP rfl ?_ rfl ?_;omega)|refine zG rfl rfl rfl rfl ?_|(refine jdq rfl rfl ?_ ?_ ?_;kernel_rfl;kernel_rfl)|refine zB rfl rfl rfl (by repeat constructor) rfl ?_|refine zH .here rfl rfl rfl rfl ?_|refine zH (.there .here) rfl rfl rfl rfl ?_|refine zH (.there (.there .here)) rfl rfl rfl rfl ?_)
        refine oS (ev_load_agg (cs := .int .i64 rf :: rd) rfl rfl (Rdb.ofB (n := 0) (.there (.there (.there .here))) (by rw [List.drop_zero, List.take_length])) h6) rfl ?_
        refine oS (ev_load_agg (cs := .int .i64 rf :: rd) rfl rfl (Rdb.ofB (n := 0) .here (by rw [List.drop_zero, List.take_length])) h6) rfl ?_
        refine oC (Hc := []) (Hr := _) (same_spec rf rd G2 (hpo.mono (hG2))) Try.call30 rfl rfl (fun _ s => s) ?_
        rintro _ G3 _ hG3 ⟨rfl, rfl⟩
        repeat (first|refine zJ rfl rfl ?_|refine jr rfl ?_|refine jn ?_|refine zM rfl rfl ?_|(refine zC rfl rfl ?_ rfl ?_;omega)|(refine zD rfl rfl ?_ rfl ?_;omega)|(refine zP rfl ?_ rfl ?_;omega)|refine zG rfl rfl rfl rfl ?_|(refine jdq rfl rfl ?_ ?_ ?_;kernel_rfl;kernel_rfl)|refine zB rfl rfl rfl (by repeat constructor) rfl ?_|refine zH .here rfl rfl rfl rfl ?_|refine zH (.there .here) rfl rfl rfl rfl ?_|refine zH (.there (.there .here)) rfl rfl rfl rfl ?_)
        refine J_again2 (j + 1) G3 ⟨hjl, hG2.trans hG3⟩ (by omega) ⟨⟨rfl, rfl, rfl, rfl, rfl, rfl, rfl, rfl, trivial⟩, fun w s => ?_⟩
        exact (s.pm 4 [0, 3, 1, 2] rfl rfl).drop.drop
      · obtain rfl : j = R1.length := by omega
        repeat (first|refine zJ rfl rfl ?_|refine jr rfl ?_|refine jn ?_|refine zM rfl rfl ?_|(refine zC rfl rfl ?_ rfl ?_;omega)|(refine zD rfl rfl ?_ rfl ?_;omega)|(refine zP rfl ?_ rfl ?_;omega)|refine zG rfl rfl rfl rfl ?_|(refine jdq rfl rfl ?_ ?_ ?_;kernel_rfl;kernel_rfl)|refine zB rfl rfl rfl (by repeat constructor) rfl ?_|refine zH .here rfl rfl rfl rfl ?_|refine zH (.there .here) rfl rfl rfl rfl ?_|refine zH (.there (.there .here)) rfl rfl rfl rfl ?_)
        exact J_again2 (i + 1) ⟨G2, R1, .slice a1 R1.length k1, .slice ar R1.length kr⟩ ⟨hlt, hG1.trans hG2, fun c hc => (hR1 c hc).mono hG2, SliceV.mono hrv1 hG2, hlen1⟩ (by omega) ⟨⟨rfl, rfl, rfl, rfl, rfl, trivial⟩, fun w s => s⟩
  · obtain rfl : i = xs.length := by omega
    repeat (first|refine zJ rfl rfl ?_|refine jr rfl ?_|refine jn ?_|refine zM rfl rfl ?_|(refine zC rfl rfl ?_ rfl ?_;omega)|(refine zD rfl rfl ?_ rfl ?_;omega)|(refine zP rfl ?_ rfl ?_;omega)|refine zG rfl rfl rfl rfl ?_|(refine jdq rfl rfl ?_ ?_ ?_;kernel_rfl;kernel_rfl)|refine zB rfl rfl rfl (by repeat constructor) rfl ?_|refine zH .here rfl rfl rfl rfl ?_|refine zH (.there .here) rfl rfl rfl rfl ?_|refine zH (.there (.there .here)) rfl rfl rfl rfl ?_)
    refine oC (Hc := []) (Hr := crowd b v R.length R.flatten ++ X) (take_nil G 0 (by omega)) Try.call29 rfl rfl (fun _ s => s) ?_
    rintro _ F2 _ hF2 ⟨rfl, rfl⟩
    repeat (first|refine zJ rfl rfl ?_|refine jr rfl ?_|refine jn ?_|refine zM rfl rfl ?_|(refine zC rfl rfl ?_ rfl ?_;omega)|(refine zD rfl rfl ?_ rfl ?_;omega)|(refine zP rfl ?_ rfl ?_;omega)|refine zG rfl rfl rfl rfl ?_|(refine jdq rfl rfl ?_ ?_ ?_;kernel_rfl;kernel_rfl)|refine zB rfl rfl rfl (by repeat constructor) rfl ?_|refine zH .here rfl rfl rfl rfl ?_|refine zH (.there .here) rfl rfl rfl rfl ?_|refine zH (.there (.there .here)) rfl rfl rfl rfl ?_)
    refine oE (ev_alloc rfl) rfl ?_; rintro _ _ _ _ ⟨rfl, b18, rfl, rfl⟩; refine oN (ev_store rfl rfl .agg rfl rfl (lay_all ?_) ?_ .here) rfl ?_; rfl; rotate_left; rintro _ _ _ _ ⟨rfl, rfl, rfl⟩; rotate_left
    · exact ones_zSent
    repeat (first|refine zJ rfl rfl ?_|refine jr rfl ?_|refine jn ?_|refine zM rfl rfl ?_|(refine zC rfl rfl ?_ rfl ?_;omega)|(refine zD rfl rfl ?_ rfl ?_;omega)|(refine zP rfl ?_ rfl ?_;omega)|refine zG rfl rfl rfl rfl ?_|(refine jdq rfl rfl ?_ ?_ ?_;kernel_rfl;kernel_rfl)|refine zB rfl rfl rfl (by repeat constructor) rfl ?_|refine zH .here rfl rfl rfl rfl ?_|refine zH (.there .here) rfl rfl rfl rfl ?_|refine zH (.there (.there .here)) rfl rfl rfl rfl ?_)
    refine oP (len_nil F2) Try.call12 rfl rfl ?_
    repeat (first|refine zJ rfl rfl ?_|refine jr rfl ?_|refine jn ?_|refine zM rfl rfl ?_|(refine zC rfl rfl ?_ rfl ?_;omega)|(refine zD rfl rfl ?_ rfl ?_;omega)|(refine zP rfl ?_ rfl ?_;omega)|refine zG rfl rfl rfl rfl ?_|(refine jdq rfl rfl ?_ ?_ ?_;kernel_rfl;kernel_rfl)|refine zB rfl rfl rfl (by repeat constructor) rfl ?_|refine zH .here rfl rfl rfl rfl ?_|refine zH (.there .here) rfl rfl rfl rfl ?_|refine zH (.there (.there .here)) rfl rfl rfl rfl ?_)
    refine oE (ev_buildSlice (E := 32) (zs := zParcel) (t := zParcel) rfl rfl rfl rfl rfl rfl (.cons .agg rfl (by repeat constructor) .nil)) rfl ?_
    rintro _ _ _ _ ⟨rfl, bp, rfl, rfl⟩
    refine oP (put_nil 1 _ F2) Try.call10 rfl rfl ?_
    repeat (first|refine zJ rfl rfl ?_|refine jr rfl ?_|refine jn ?_|refine zM rfl rfl ?_|(refine zC rfl rfl ?_ rfl ?_;omega)|(refine zD rfl rfl ?_ rfl ?_;omega)|(refine zP rfl ?_ rfl ?_;omega)|refine zG rfl rfl rfl rfl ?_|(refine jdq rfl rfl ?_ ?_ ?_;kernel_rfl;kernel_rfl)|refine zB rfl rfl rfl (by repeat constructor) rfl ?_|refine zH .here rfl rfl rfl rfl ?_|refine zH (.there .here) rfl rfl rfl rfl ?_|refine zH (.there (.there .here)) rfl rfl rfl rfl ?_)
    refine oP (pick_nil F2) Try.call31 rfl rfl ?_
    repeat (first|refine zJ rfl rfl ?_|refine jr rfl ?_|refine jn ?_|refine zM rfl rfl ?_|(refine zC rfl rfl ?_ rfl ?_;omega)|(refine zD rfl rfl ?_ rfl ?_;omega)|(refine zP rfl ?_ rfl ?_;omega)|refine zG rfl rfl rfl rfl ?_|(refine jdq rfl rfl ?_ ?_ ?_;kernel_rfl;kernel_rfl)|refine zB rfl rfl rfl (by repeat constructor) rfl ?_|refine zH .here rfl rfl rfl rfl ?_|refine zH (.there .here) rfl rfl rfl rfl ?_|refine zH (.there (.there .here)) rfl rfl rfl rfl ?_)
    exact J_retv rfl (.tmp rfl .nil) [] (fun w s => s.drop.drop.drop.drop) (hG.trans hF2) ⟨rfl, rfl⟩
open Go.ChangeShapes Go.WideShapes Go.ChangeAt
set_option maxRecDepth 100000 in theorem CrowdPlays_lifted (os : Os) (started : os.Started) (H : Type) (enc : TypeId × Value → H) : ReturnsInHanded {} Try.checked os 7 .any (Rows.crowdPlaysSpec.pre6 enc Try.prog Try.f7 Rows.crowdPlaysRow.domain false) (Rows.crowdPlaysSpec.post enc Try.prog Try.f7 false true false false) := by
  refine returnsInHanded_of_change (C := Try.checked) own_knob started (by kernel_rfl) Try.func7 (ChangeSpec.witness6 (enc := enc) (C := Try.checked) false ⟨#[], #[.slice none 0 0], []⟩ 8 (by kernel_rfl) (by kernel_rfl) (by kernel_rfl) (by kernel_rfl)) ?_; intro W base args ds gs before hval0 hW hcnd _; have hval : ∀ (j : Nat) t v, Try.f7.params[j]? = some t → args[j]? = some v → Value.okWide Try.prog W .any base t v := hval0; have hW' := hW; obtain ⟨p, q, hA0, hV, hp, hfz, hnd⟩ := hW; have hA : DataW.TrodAll enc Try.prog W 0 (fun _ => true) true Try.f7.params.toList args.toList ds p := hA0; obtain ⟨rfl, rfl⟩ := trodVars_none hV; rw [List.append_nil] at hp; have hA' := hA; rw [Try.params7] at hA hval
  obtain ⟨v0, vs0, d0, ds0, p0, q0, hargs, rfl, rfl, h0, r0⟩ := trodAll_cons hA; obtain ⟨rfl, rfl, rfl⟩ := trodAll_nil r0; obtain rfl : args = #[v0] := by cases args; simp_all
  obtain ⟨xs, hx⟩ := open_row tyAct Try.underlying50 (by kernel_rfl) (by decide) (hval 0 50 v0 rfl rfl) h0
  obtain ⟨a, c, rfl, _⟩ := hx.form
  refine (law_walk (CrowdPlays_walk a c xs (ph W) hx)).mono fun e W' ⟨he, hb⟩ => ?_
  subst he
  exact ⟨_, rfl, law_post laid_out (by kernel_rfl) rfl rfl Try.underlying4 hW' hA' hp rfl hb⟩
theorem CrowdPlays_holds : Rows.CrowdPlaysSaid := OpenClaim.holds_of_wide 7 Try.f7 rfl rfl rfl rfl rfl rfl rfl ⟨rfl, rfl, rfl, rfl, rfl⟩ rfl rfl rfl rfl rfl (by kernel_rfl) Try.func7 (by kernel_rfl) (of_decide_eq_true (by kernel_rfl)) (by unfold Func.isWrapper; first | (rw [if_pos (by decide +kernel)]; kernel_rfl) | (rw [if_neg (by decide +kernel)]; exact ⟨rfl, rfl⟩)) (fun os started H enc _ => CrowdPlays_lifted os started H enc)
#print axioms CrowdPlays_holds
end Go.Proofs.Ytpcgolpbjbaekaa
