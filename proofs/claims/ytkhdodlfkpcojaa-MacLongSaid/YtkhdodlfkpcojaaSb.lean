/-
  Words in arrays: the program's constants, the schedule of a block. Conditions are typed with each.
-/
import Derived.Test.YtkhdodlfkpcojaaSa
import Derived.Test.YtkhdodlfkpcojaaOe
namespace Go.Proofs.Ytkhdodlfkpcojaa
open Go.RowKit
section
variable {P : Program} {l : Env} {F : PH} {H Hr : List Asrt} {d : Option Nat} {T T' U E : TypeId} {pos : String} {af : Array Edge} {g : Option (Nat × Bool)} {x y z : Operand}
/-- An array's literal. -/
theorem ev_build_arr {ps : List (Nat × Operand)} {vs : List (Nat × Value)} {n size : Nat} {zs t : List Value} (hp : partvs l ps = some vs) (hz : zeroCs P T = some zs) (ht : arrOf P T = some (n, E, size)) (hf : FillS size vs zs t) :
    Ev P ⟨d, .build T ps.toArray, U, pos, af, g⟩ l F H (.agg t.toArray) := .of fun ρ hρ w _ => by
  obtain ⟨i', zv, hi', hz', hc⟩ := zeroCs_info hz
  obtain ⟨hu, j, hj, hjs⟩ := arrOf_info ht
  have hpv := partvs_eq hρ hp
  have e2 : ps.toArray.map (fun (p : Nat × Operand) => (p.1, ρ p.2)) = vs.toArray := by rw [← hpv]; simp
  refine run_v (s := Instr.build T _) ?_
  rw [e2]
  have hrun := fillS_run hf
  unfold Instr.build
  simp [zeroValue, typeInfo, hi', hz', run_underlying hu, sizeOf, hj, hjs, hc, hrun, run_typeInfo hi', run_typeInfo hj]
/-- A slice read as an array, where it lies. -/
theorem ev_s2a {a : Option Addr} {n m c size e : Nat} (hx : opv l x = some (.slice a n c)) (ht : arrOf P T = some (m, e, size)) (h : m ≤ n) : Ev P ⟨d, .sliceToArrayPointer T x, U, pos, af, g⟩ l F H (.pointer a) := .of fun ρ hρ w _ => by
  have e1 := hρ _ _ hx
  obtain ⟨hu, j, hj, hjs⟩ := arrOf_info ht
  refine run_v (s := Instr.arrayAt T (ρ x)) ?_
  rw [e1]
  have h1 : ¬ n < m := by omega
  simp [Instr.arrayAt, run_underlying hu, h1]
/-- An array's cell, out of the array as a value. -/
theorem ev_index_agg {e n i : Nat} {k kk : IntKind} {v : Value} {cs : List Value} (hx : opv l x = some (.agg cs.toArray)) (hy : opv l y = some (.int k (i : Int))) (ht : arrOf P T = some (n, e, 1)) (he : P.underlying e = some (.int kk)) (hl : cs.length = n) (hi : cs[i]? = some v) :
    Ev P ⟨d, .index T x y, U, pos, af, g⟩ l F H v := .of fun ρ hρ w _ => by
  have e1 := hρ _ _ hx; have e2 := hρ _ _ hy
  obtain ⟨hu, j, hj, hs⟩ := arrOf_info ht
  obtain ⟨hlt, hc⟩ := List.getElem?_eq_some_iff.1 hi
  have h1 : (i : Int) < (n : Int) := by omega
  refine run_v (s := Instr.index T (ρ x) (ρ y)) ?_
  rw [e1, e2]
  simp [Instr.index, asIntOf, run_underlying hu, h1, run_sizeOf hj, hs, part, isAgg, run_underlying he, hi]
  intro hni
  omega
end
abbrev z64 : List Value := List.replicate 64 (.int .u32 0)
def kW : List W := [
  0x428a2f98#32, 0x71374491#32, 0xb5c0fbcf#32, 0xe9b5dba5#32, 0x3956c25b#32, 0x59f111f1#32, 0x923f82a4#32, 0xab1c5ed5#32,
  0xd807aa98#32, 0x12835b01#32, 0x243185be#32, 0x550c7dc3#32, 0x72be5d74#32, 0x80deb1fe#32, 0x9bdc06a7#32, 0xc19bf174#32,
  0xe49b69c1#32, 0xefbe4786#32, 0x0fc19dc6#32, 0x240ca1cc#32, 0x2de92c6f#32, 0x4a7484aa#32, 0x5cb0a9dc#32, 0x76f988da#32,
  0x983e5152#32, 0xa831c66d#32, 0xb00327c8#32, 0xbf597fc7#32, 0xc6e00bf3#32, 0xd5a79147#32, 0x06ca6351#32, 0x14292967#32,
  0x27b70a85#32, 0x2e1b2138#32, 0x4d2c6dfc#32, 0x53380d13#32, 0x650a7354#32, 0x766a0abb#32, 0x81c2c92e#32, 0x92722c85#32,
  0xa2bfe8a1#32, 0xa81a664b#32, 0xc24b8b70#32, 0xc76c51a3#32, 0xd192e819#32, 0xd6990624#32, 0xf40e3585#32, 0x106aa070#32,
  0x19a4c116#32, 0x1e376c08#32, 0x2748774c#32, 0x34b0bcb5#32, 0x391c0cb3#32, 0x4ed8aa4a#32, 0x5b9cca4f#32, 0x682e6ff3#32,
  0x748f82ee#32, 0x78a5636f#32, 0x84c87814#32, 0x8cc70208#32, 0x90befffa#32, 0xa4506ceb#32, 0xbef9a3f7#32, 0xc67178f2#32]
def hW : List W := [0x6a09e667#32, 0xbb67ae85#32, 0x3c6ef372#32, 0xa54ff53a#32, 0x510e527f#32, 0x9b05688c#32, 0x1f83d9ab#32, 0x5be0cd19#32]
def w32s (l : List W) : List Value := l.map w32
theorem w32s_len (l : List W) : (w32s l).length = l.length := by simp [w32s]
theorem w32s_ones (l : List W) : Ones (w32s l) := fun v hv => by
  obtain ⟨x, _, rfl⟩ := List.mem_map.1 hv
  rfl
theorem kW_len : kW.length = 64 := rfl
theorem fill_words : ∀ (l : List W) (i : Nat) (pre : List Value), pre.length = i → FillS 1 ((w32s l).zipIdx i |>.map fun p => (p.2, p.1)) (pre ++ List.replicate l.length (.int .u32 0)) (pre ++ w32s l)
  | [], i, pre, _ => by simpa [w32s] using FillS.nil
  | a :: l, i, pre, hp => by
    have ih := fill_words l (i + 1) (pre ++ [w32 a]) (by simp [hp])
    refine FillS.cons (vs := [w32 a]) (s := pre ++ [w32 a] ++ List.replicate l.length (.int .u32 0)) VC.int rfl ?_ ?_
    · subst hp
      have h := lay_set (i := pre.length) (r := pre ++ List.replicate (l.length + 1) (.int .u32 0)) (w32 a) (by simp)
      rw [List.set_append_right _ _ (Nat.le_refl _), Nat.sub_self, List.replicate_succ, List.set_cons_zero] at h
      simpa [List.replicate_succ] using h
    · simpa [w32s] using ih
set_option maxHeartbeats 4000000 in
theorem rounds_spec (F : PH) : Pure Try.prog 32 [] F (.agg (w32s kW).toArray) := by
  refine Spec.of0 Try.func32 rfl fun X w0 => ?_
  refine jc rfl rfl ?_
  refine jr rfl ?_
  refine oE (ev_alloc (cs := z64) rfl) rfl ?_
  rintro _ _ _ _ ⟨rfl, b, rfl, rfl⟩
  refine jn ?_
  refine jc rfl rfl ?_
  refine jr rfl ?_
  refine oS (ev_build_arr (t := w32s kW) rfl (zs := z64) rfl rfl (fill_words kW 0 [] rfl)) rfl ?_
  refine oN (ev_store (b := b) rfl rfl .agg rfl rfl (lay_all (zs := z64) rfl) (w32s_ones _) .here) rfl ?_
  rintro _ _ _ _ ⟨rfl, _, rfl⟩
  repeat (first | refine jc rfl rfl ?_ | refine jr rfl ?_ | refine jn ?_ | refine oM rfl rfl ?_ | refine oS (ev_pv rfl) rfl ?_ | refine oX rfl ?_ | refine J_cond_t rfl ?_ | refine J_cond_f rfl ?_ | refine oS (eb rfl) rfl ?_ | (refine oS (ev_cmp_t rfl rfl ?_) rfl ?_; (dsimp only [cmpP] <;> omega)) | (refine oS (ev_cmp_f rfl rfl ?_) rfl ?_; (dsimp only [cmpN] <;> omega)) | (refine oS (ea rfl rfl rfl ?_) rfl ?_; (dsimp only [InK]; first | omega | exact ⟨Int.natCast_nonneg _, by omega⟩)) | (refine oS (ed rfl rfl rfl ?_ ?_ ?_) rfl ?_; (first | omega | exact Int.natCast_nonneg _); (first | omega | exact Int.natCast_nonneg _); (dsimp only [InK]; first | omega | exact ⟨Int.natCast_nonneg _, by omega⟩)) | refine oS (ev_fieldAddr rfl rfl) rfl ?_ | (refine oS (ev_conv rfl rfl rfl (wrap_in ?_)) rfl ?_; (dsimp only [InK]; first | omega | exact ⟨Int.natCast_nonneg _, by omega⟩)) | refine oS (ev_bool_eql rfl rfl rfl) rfl ?_ | refine oS (eg rfl rfl rfl) rfl ?_ | (refine jdq rfl rfl ?_ ?_ ?_; kernel_rfl; kernel_rfl) | (refine oS (ev_build (t := ?_) rfl rfl rfl ?_) rfl ?_; rotate_left; (repeat (first | exact FillF.nil | refine FillF.cons (by constructor) rfl rfl (by repeat constructor) ?_))) | refine oS (ev_ptr_eql_nil rfl rfl rfl) rfl ?_)
  exact J_retv (vs := [.agg (w32s kW).toArray]) rfl (.agg rfl rfl (Rdb.ofB (n := 0) .here rfl) rfl .nil) [] (fun w s => s.drop) (PH.ler _) ⟨rfl, rfl⟩
set_option maxHeartbeats 4000000 in
theorem first_spec (F : PH) : Pure Try.prog 23 [] F (.agg (w32s hW).toArray) := by
  refine Spec.of0 Try.func23 rfl fun X w0 => ?_
  refine jc rfl rfl ?_
  refine jr rfl ?_
  refine oE (ev_alloc (cs := List.replicate 8 (.int .u32 0)) rfl) rfl ?_
  rintro _ _ _ _ ⟨rfl, b, rfl, rfl⟩
  refine jn ?_
  refine jc rfl rfl ?_
  refine jr rfl ?_
  refine oS (ev_build_arr (t := w32s hW) rfl (zs := List.replicate 8 (.int .u32 0)) rfl rfl (fill_words hW 0 [] rfl)) rfl ?_
  refine oN (ev_store (b := b) rfl rfl .agg rfl rfl (lay_all (zs := List.replicate 8 (.int .u32 0)) rfl) (w32s_ones _) .here) rfl ?_
  rintro _ _ _ _ ⟨rfl, _, rfl⟩
  repeat (first | refine jc rfl rfl ?_ | refine jr rfl ?_ | refine jn ?_ | refine oM rfl rfl ?_ | refine oS (ev_pv rfl) rfl ?_ | refine oX rfl ?_ | refine J_cond_t rfl ?_ | refine J_cond_f rfl ?_ | refine oS (eb rfl) rfl ?_ | (refine oS (ev_cmp_t rfl rfl ?_) rfl ?_; (dsimp only [cmpP] <;> omega)) | (refine oS (ev_cmp_f rfl rfl ?_) rfl ?_; (dsimp only [cmpN] <;> omega)) | (refine oS (ea rfl rfl rfl ?_) rfl ?_; (dsimp only [InK]; first | omega | exact ⟨Int.natCast_nonneg _, by omega⟩)) | (refine oS (ed rfl rfl rfl ?_ ?_ ?_) rfl ?_; (first | omega | exact Int.natCast_nonneg _); (first | omega | exact Int.natCast_nonneg _); (dsimp only [InK]; first | omega | exact ⟨Int.natCast_nonneg _, by omega⟩)) | refine oS (ev_fieldAddr rfl rfl) rfl ?_ | (refine oS (ev_conv rfl rfl rfl (wrap_in ?_)) rfl ?_; (dsimp only [InK]; first | omega | exact ⟨Int.natCast_nonneg _, by omega⟩)) | refine oS (ev_bool_eql rfl rfl rfl) rfl ?_ | refine oS (eg rfl rfl rfl) rfl ?_ | (refine jdq rfl rfl ?_ ?_ ?_; kernel_rfl; kernel_rfl) | (refine oS (ev_build (t := ?_) rfl rfl rfl ?_) rfl ?_; rotate_left; (repeat (first | exact FillF.nil | refine FillF.cons (by constructor) rfl rfl (by repeat constructor) ?_))) | refine oS (ev_ptr_eql_nil rfl rfl rfl) rfl ?_)
  exact J_retv (vs := [.agg (w32s hW).toArray]) rfl (.agg rfl rfl (Rdb.ofB (n := 0) .here rfl) rfl .nil) [] (fun w s => s.drop) (PH.ler _) ⟨rfl, rfl⟩
end Go.Proofs.Ytkhdodlfkpcojaa
