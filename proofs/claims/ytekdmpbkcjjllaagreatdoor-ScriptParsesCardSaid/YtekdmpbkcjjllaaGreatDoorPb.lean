/-
  The library's functions that the scripts call, by their contracts, in this logic: numbers as text and back, rows cut at a sign. Conditions are typed with each.
-/
import Derived.Test.YtekdmpbkcjjllaaGreatDoorPa
import Derived.Test.YtekdmpbkcjjllaaGreatDoorKt
namespace Go.Proofs.YtekdmpbkcjjllaaGreatDoor
open Go.RowKit
open Go.Shelf
set_option maxRecDepth 100000
/-- A call that lays what it likes behind the heap. -/
theorem Pure.ofCalls {P : Program} {f : FuncId} {args : List Value} {F : PH} {v : Value} (h : ∀ w, F.le (ph w) → Calls P f args.toArray w fun e w' => e = .returned v ∧ Mild w w' ∧ (ph w).le (ph w')) : Pure P f args F v := by
  unfold Pure
  unfold Spec
  intro X w hs
  refine (h w hs.le).mono ?_
  rintro e w' ⟨rfl, hm, hp⟩
  exact ⟨_, F, [], rfl, PH.ler _, ⟨rfl, rfl⟩, hm, hs.world hp⟩
theorem Spec.ofCalls {P : Program} {f : FuncId} {args : List Value} {F : PH} {q : Value → Prop} (h : ∀ w, F.le (ph w) → Calls P f args.toArray w fun e w' => ∃ v, e = .returned v ∧ q v ∧ Mild w w' ∧ (ph w).le (ph w')) : Spec P f args F [] fun u _ H' => H' = [] ∧ q u := by
  unfold Spec
  intro X w hs
  refine (h w hs.le).mono ?_
  rintro e w' ⟨v, rfl, hq, hm, hp⟩
  exact ⟨_, F, [], rfl, PH.ler _, ⟨rfl, hq⟩, hm, hs.world hp⟩
theorem mild_below {w w' : World} (h : Below w.heap.size w w') : Mild w w' := ⟨h.os, h.tape, h.output, h.size⟩
theorem le_below {w w' : World} (h : Below w.heap.size w w') : (ph w).le (ph w') := fun b o hb => (h.block b (ph_lt hb)).trans hb
/-- What the library's variables hold. -/
def TabF (F : PH) : Prop := ∀ w, F.le (ph w) → Lib.TabIs Tryz.prog w "internal/strconv.uint64pow10" .u64 Lib.pow10Tab
theorem TabF.mono {F G : PH} (h : TabF F) (hl : F.le G) : TabF G := fun w hw => h w (hl.trans hw)
def ErrF (g : Nat) (F : PH) : Prop := ∃ t p, cellF F g 0 = some (.iface t p)
theorem ErrF.mono {g : Nat} {F G : PH} (h : ErrF g F) (hl : F.le G) : ErrF g G := let ⟨t, p, e⟩ := h; ⟨t, p, cellF_mono hl e⟩
structure LibF (F : PH) : Prop where
  tab : TabF F
  syn : ErrF 4 F
  rng : ErrF 5 F
theorem LibF.mono {F G : PH} (h : LibF F) (hl : F.le G) : LibF G := ⟨h.tab.mono hl, h.syn.mono hl, h.rng.mono hl⟩
theorem fmt_spec (n : Int) (h0 : -9223372036854775808 ≤ n) (h1 : n ≤ 9223372036854775807) (F : PH) (ht : TabF F) : Pure Tryz.prog 50 [.int .i64 n, .int .i64 10] F (.string (strOf (Lib.itoa n))) := by
  refine Pure.ofCalls fun w hw => ?_
  refine (Any.strconv_FormatInt_10 laysM173 n h0 h1 w (ht w hw)).mono ?_
  rintro e w' ⟨rfl, k, os, rfl⟩
  refine ⟨rfl, ⟨rfl, rfl, rfl, by simp [Go.Sort.grow]⟩, fun b o hb => ?_⟩
  have h1 : w.heap[b]? = some o := hb
  have hlt := (Array.getElem?_eq_some_iff.1 h1).1
  show (w.heap ++ os)[b]? = some o
  rw [Array.getElem?_append_left hlt]
  exact h1
theorem parse_ok (s : List UInt8) (hs : s.length ≤ 281474976710656) (v : Int) (h : Lib.parseIntB 64 s = .ok v) (F : PH) : Pure Tryz.prog 64 [.string (strOf s), .int .i64 10, .int .i64 64] F (.tuple #[.int .i64 v, .nilIface]) := by
  refine Pure.ofCalls fun w _ => ?_
  refine (Any.strconv_ParseInt_10_at64_ok laysC174 (strOf s) (by rw [strOf_size]; omega) v h w).mono ?_
  rintro e w' ⟨rfl, hw | ⟨t, hw⟩⟩ <;> subst hw
  · exact ⟨rfl, Mild.refl _, PH.ler _⟩
  · exact ⟨rfl, mild_below (Lib.bytesWorld_below w _ t), le_below (Lib.bytesWorld_below w _ t)⟩
theorem parse_bad (s : List UInt8) (hs : s.length ≤ 281474976710656) (h : ∀ v, Lib.parseIntB 64 s ≠ .ok v) (F : PH) (hF : LibF F) : Spec Tryz.prog 64 [.string (strOf s), .int .i64 10, .int .i64 64] F [] fun u _ H' => H' = [] ∧ ∃ v t p, u = .tuple #[.int .i64 v, .iface t p] ∧ -9223372036854775808 ≤ v ∧ v ≤ 9223372036854775807 := by
  refine Spec.ofCalls fun w hw => ?_
  have cell : ∀ {g : Nat} {u : Value}, cellF F g 0 = some u → w.cell? ⟨g, 0, none⟩ = some u := fun hc => cellF_ph.1 (cellF_mono hw hc)
  cases hp : Lib.parseIntB 64 s
  · exact absurd hp (h _)
  · obtain ⟨t, p, e⟩ := hF.syn
    refine (Any.strconv_ParseInt_10_at64_syntax laysC174 (strOf s) (by rw [strOf_size]; exact hs) hp (.iface t p) w (cell e) (.inr ⟨t, p, rfl⟩)).mono ?_
    rintro e w' ⟨N, rfl, _, _, hb⟩
    exact ⟨_, rfl, ⟨0, _, _, rfl, by omega, by omega⟩, mild_below hb, le_below hb⟩
  · obtain ⟨t, p, e⟩ := hF.rng
    refine (Any.strconv_ParseInt_10_at64_range laysC174 (strOf s) (by rw [strOf_size]; exact hs) hp (.iface t p) w (cell e) (.inr ⟨t, p, rfl⟩)).mono ?_
    rintro e w' ⟨N, rfl, _, _, hb⟩
    have hsat : -9223372036854775808 ≤ Lib.intSat 64 s ∧ Lib.intSat 64 s ≤ 9223372036854775807 := by
      unfold Lib.intSat
      split <;> decide
    exact ⟨_, rfl, ⟨_, _, _, rfl, hsat⟩, mild_below hb, le_below hb⟩
theorem indexByte_spec (s : List UInt8) (c : UInt8) (F : PH) : Pure Tryz.prog 55 [.string (strOf s), .int .u8 c.toNat] F (.int .i64 (Lib.indexByte s c)) := by
  refine Pure.ofCalls fun w _ => ?_
  refine (Any.strings_IndexByte lays137 (strOf s) c.toNat w).mono ?_
  rintro e w' ⟨rfl, rfl⟩
  have h : ((c.toNat : Int).toNat).toUInt8 = c := by simp
  rw [h]
  exact ⟨rfl, Mild.refl _, PH.ler _⟩
theorem contains_spec (s : List UInt8) (c : UInt8) (F : PH) : Pure Tryz.prog 78 [.string (strOf s), .string (strOf [c])] F (.bool (decide (0 ≤ Lib.indexByte s c))) := by
  refine Pure.ofCalls fun w _ => ?_
  refine (Any.strings_Contains_one lays144 (strOf s) c w).mono ?_
  rintro e w' ⟨rfl, rfl⟩
  exact ⟨rfl, Mild.refl _, PH.ler _⟩
theorem count_spec (s : List UInt8) (c : UInt8) (F : PH) : Pure Tryz.prog 11 [.string (strOf s), .string (strOf [c])] F (.int .i64 (s.count c : Nat)) := by
  refine Pure.ofCalls fun w _ => ?_
  refine (Any.strings_Count_one lays138 (strOf s) c w).mono ?_
  rintro e w' ⟨rfl, rfl⟩
  exact ⟨rfl, Mild.refl _, PH.ler _⟩
theorem trim_spec (s p : List UInt8) (hs : s.length ≤ 281474976710656) (F : PH) : Pure Tryz.prog 14 [.string (strOf s), .string (strOf p)] F (.string (strOf (Lib.trimSuffix s p))) := by
  refine Pure.ofCalls fun w _ => ?_
  refine (Any.strings_TrimSuffix lays102 (strOf s) (strOf p) w (by rw [strOf_size]; omega)).mono ?_
  rintro e w' ⟨rfl, rfl⟩
  exact ⟨rfl, Mild.refl _, PH.ler _⟩
/-! ### rows cut at a sign -/
def splW (c : UInt8) : List UInt8 → List (List UInt8)
  | [] => [[]]
  | b :: r => if b = c then [] :: splW c r else match splW c r with
    | [] => [[b]]
    | w :: ws => (b :: w) :: ws
def splA (c : UInt8) : List UInt8 → List (List UInt8)
  | [] => [[]]
  | b :: r => if b = c then [b] :: splA c r else match splA c r with
    | [] => [[b]]
    | w :: ws => (b :: w) :: ws
def splV (sv : Nat) (c : UInt8) (s : List UInt8) : List (List UInt8) := if sv = 0 then splW c s else splA c s
theorem splW_ne (c : UInt8) : ∀ s, splW c s ≠ []
  | [] => by simp [splW]
  | b :: r => by
    unfold splW
    split
    · simp
    · split <;> simp
theorem splA_ne (c : UInt8) : ∀ s, splA c s ≠ []
  | [] => by simp [splA]
  | b :: r => by
    unfold splA
    split
    · simp
    · split <;> simp
theorem splW_len (c : UInt8) : ∀ s, (splW c s).length = s.count c + 1
  | [] => by simp [splW]
  | b :: r => by
    have ih := splW_len c r
    unfold splW
    rw [List.count_cons]
    split
    · rename_i h; simp [h, ih]
    · rename_i h
      rw [if_neg (by simpa using h)]
      split
      · rename_i e; exact absurd e (splW_ne c r)
      · rename_i e; rw [e] at ih; simpa using ih
theorem splA_len (c : UInt8) : ∀ s, (splA c s).length = s.count c + 1
  | [] => by simp [splA]
  | b :: r => by
    have ih := splA_len c r
    unfold splA
    rw [List.count_cons]
    split
    · rename_i h; simp [h, ih]
    · rename_i h
      rw [if_neg (by simpa using h)]
      split
      · rename_i e; exact absurd e (splA_ne c r)
      · rename_i e; rw [e] at ih; simpa using ih
theorem index_one_cons (b c : UInt8) (l : List UInt8) : Lib.index (b :: l) [c] = if b = c then 0 else if Lib.index l [c] = -1 then -1 else Lib.index l [c] + 1 := by
  rw [Lib.index]
  by_cases h : b = c
  · subst h; simp [List.isPrefixOf]
  · have : ([c].isPrefixOf (b :: l)) = false := by
      simp [List.isPrefixOf]
      exact fun e => h e.symm
    rw [this, if_neg h]
    simp
theorem splitK_zero (sep : List UInt8) (sv : Nat) (s : List UInt8) : Lib.splitK sep sv 0 s = [s] := rfl
theorem splitK_cons (b c : UInt8) (sv k : Nat) (r : List UInt8) (h : b ≠ c) : Lib.splitK [c] sv k (b :: r) = match Lib.splitK [c] sv k r with
    | [] => [[b]]
    | w :: ws => (b :: w) :: ws := by
  cases k with
  | zero => rfl
  | succ k =>
    have hg := Lib.index_ge r [c]
    unfold Lib.splitK
    rw [index_one_cons, if_neg h]
    by_cases e : Lib.index r [c] = -1
    · simp [e]
    · obtain ⟨i, hi⟩ : ∃ i : Nat, Lib.index r [c] = i := ⟨(Lib.index r [c]).toNat, by omega⟩
      rw [hi]
      have h1 : ¬ ((i : Int) = -1) := by omega
      have h2 : ¬ ((i : Int) + 1 = -1) := by omega
      simp only [if_neg h1, beq_iff_eq, if_neg h2]
      have e1 : ((i : Int) + 1).toNat = i + 1 := by omega
      have e2 : ((i : Int)).toNat = i := by omega
      rw [e1, e2, show i + 1 + sv = (i + sv) + 1 from by omega, List.take_succ_cons, show i + 1 + [c].length = (i + [c].length) + 1 from by omega, List.drop_succ_cons]
theorem splitK_hit (c : UInt8) (sv k : Nat) (r : List UInt8) : Lib.splitK [c] sv (k + 1) (c :: r) = (c :: r).take sv :: Lib.splitK [c] sv k r := by
  rw [Lib.splitK, index_one_cons, if_pos rfl]
  simp
theorem splitK_W (c : UInt8) : ∀ s, Lib.splitK [c] 0 (s.count c) s = splW c s
  | [] => rfl
  | b :: r => by
    have ih := splitK_W c r
    unfold splW
    by_cases h : b = c
    · subst h
      rw [if_pos rfl, List.count_cons_self, splitK_hit, ih]
      rfl
    · rw [if_neg h, List.count_cons_of_ne h, splitK_cons b c 0 _ r h, ih]
theorem splitK_A (c : UInt8) : ∀ s, Lib.splitK [c] 1 (s.count c) s = splA c s
  | [] => rfl
  | b :: r => by
    have ih := splitK_A c r
    unfold splA
    by_cases h : b = c
    · subst h
      rw [if_pos rfl, List.count_cons_self, splitK_hit, ih]
      rfl
    · rw [if_neg h, List.count_cons_of_ne h, splitK_cons b c 1 _ r h, ih]
theorem countB_strOf (s : List UInt8) (c : UInt8) : Lib.countB (strOf s) (strOf [c]) = s.count c := by
  show Lib.count s [c] = _
  exact Lib.count_one c s
def strC (L : List (List UInt8)) : List Value := L.map fun s => .string (strOf s)
theorem splitB_strOf (s : List UInt8) (c : UInt8) (sv : Nat) (h : sv ≤ 1) : (Lib.splitB (strOf [c]) sv (s.count c) (strOf s)).map Value.string = strC (splV sv c s) := by
  have e := Lib.splitB_data (strOf [c]) sv (s.count c) (strOf s)
  have e2 : Lib.splitK [c] sv (s.count c) s = splV sv c s := by
    unfold splV
    rcases Nat.le_one_iff_eq_zero_or_eq_one.1 h with rfl | rfl
    · rw [if_pos rfl]; exact splitK_W c s
    · rw [if_neg (by decide)]; exact splitK_A c s
  have e3 : (Lib.splitB (strOf [c]) sv (s.count c) (strOf s)).map (·.data.toList) = splV sv c s := e.trans e2
  rw [← e3]
  unfold strC
  rw [List.map_map]
  refine List.map_congr_left fun x _ => ?_
  show Value.string x = Value.string (strOf x.data.toList)
  unfold strOf
  rfl
theorem splV_len (sv : Nat) (c : UInt8) (s : List UInt8) : (splV sv c s).length = s.count c + 1 := by
  unfold splV
  split
  · exact splW_len c s
  · exact splA_len c s
set_option maxHeartbeats 1000000 in
theorem genSplit_spec (s : List UInt8) (c : UInt8) (sv : Nat) (hv : sv ≤ 1) (hs : s.length < 4294967281) (F : PH) : Spec Tryz.prog 41 [.string (strOf s), .string (strOf [c]), .int .i64 sv, .int .i64 (-1)] F [] fun u _ H' => ∃ b, u = .slice (some ⟨b, 0, none⟩) (splV sv c s).length (splV sv c s).length ∧ H' = [blk b 9 (strC (splV sv c s))] := by
  unfold Spec
  intro X w h
  have hcl : s.count c ≤ s.length := List.count_le_length
  have hN : ((s.count c + 1 : Nat) : Int) = min (if (-1 : Int) < 0 then (Lib.countB (strOf s) (strOf [c]) : Int) + 1 else (-1)) (((strOf s).size : Int) + 1) := by
    rw [if_pos (by decide), countB_strOf, strOf_size]
    omega
  have hlen : (Lib.splitB (strOf [c]) sv (s.count c) (strOf s)).length = s.count c + 1 := by
    have := congrArg List.length (splitB_strOf s c sv hv)
    unfold strC at this
    rw [List.length_map, List.length_map, splV_len] at this
    exact this
  refine (Any.strings_genSplit_core { laysM221 with } laysM221.i9 (strOf s) (strOf [c]) sv (-1) (s.count c + 1) w (by rw [strOf_size]; exact hs) (by rw [strOf_size]; exact Nat.le_refl 1) (by rw [strOf_size]; exact hv)
    (fun x cs _ => (Any.strings_Index_one { laysM221 with } x c _).mono ?_) ((Any.strings_Count_one { laysM221 with } (strOf s) c w).mono ?_) (by decide) (by decide) hN).mono ?_
  · rintro e w' ⟨rfl, rfl⟩
    refine ⟨?_, rfl⟩
    show _ = Ending.returned (Value.int .i64 (Lib.index x.data.toList [c]))
    rw [Lib.index_one]
  · rintro e w' ⟨rfl, rfl⟩
    refine ⟨?_, rfl⟩
    rw [countB_strOf]
    rfl
  · rintro e w' ⟨rfl, rfl⟩
    rw [Nat.add_sub_cancel, hlen, ← hlen, Lib.cellsOf_full, hlen, splitB_strOf s c sv hv]
    refine ⟨_, F, _, rfl, PH.ler _, ⟨w.heap.size, by rw [splV_len], rfl⟩, Mild.alloc _ _, ?_⟩
    exact Sat.alloc h _ _ rfl
theorem split_spec (s : List UInt8) (c : UInt8) (hs : s.length < 4294967281) (F : PH) : Spec Tryz.prog 29 [.string (strOf s), .string (strOf [c])] F [] fun u _ H' => ∃ b, u = .slice (some ⟨b, 0, none⟩) (splW c s).length (splW c s).length ∧ H' = [blk b 9 (strC (splW c s))] := by
  refine Spec.of2 Tryz.func29 rfl rfl fun X w0 => ?_
  repeat (first|refine zJ rfl rfl ?_|refine jr rfl ?_|refine jn ?_|refine zM rfl rfl ?_|(refine zC rfl rfl ?_ rfl ?_;omega)|(refine zD rfl rfl ?_ rfl ?_;omega)|(refine zP rfl ?_ rfl ?_;omega)|refine zG rfl rfl rfl rfl ?_|(refine jdq rfl rfl ?_ ?_ ?_;kernel_rfl;kernel_rfl)|refine zB rfl rfl rfl (by repeat constructor) rfl ?_|refine zH .here rfl rfl rfl rfl ?_|refine zH (.there .here) rfl rfl rfl rfl ?_|refine zH (.there (.there .here)) rfl rfl rfl rfl ?_|refine zH (.there (.there (.there .here))) rfl rfl rfl rfl ?_|refine zH (.there (.there (.there (.there .here)))) rfl rfl rfl rfl ?_)
  refine oC (Hc := []) (Hr := X) (genSplit_spec s c 0 (by decide) hs F) Tryz.call41 rfl rfl (fun _ s => s) ?_
  rintro _ F1 _ hF1 ⟨b, rfl, rfl⟩
  repeat (first|refine zJ rfl rfl ?_|refine jr rfl ?_|refine jn ?_|refine zM rfl rfl ?_|(refine zC rfl rfl ?_ rfl ?_;omega)|(refine zD rfl rfl ?_ rfl ?_;omega)|(refine zP rfl ?_ rfl ?_;omega)|refine zG rfl rfl rfl rfl ?_|(refine jdq rfl rfl ?_ ?_ ?_;kernel_rfl;kernel_rfl)|refine zB rfl rfl rfl (by repeat constructor) rfl ?_|refine zH .here rfl rfl rfl rfl ?_|refine zH (.there .here) rfl rfl rfl rfl ?_|refine zH (.there (.there .here)) rfl rfl rfl rfl ?_|refine zH (.there (.there (.there .here))) rfl rfl rfl rfl ?_|refine zH (.there (.there (.there (.there .here)))) rfl rfl rfl rfl ?_)
  exact J_ret1 rfl rfl [blk b 9 (strC (splW c s))] rfl hF1 ⟨b, rfl, rfl⟩
theorem splitAfter_spec (s : List UInt8) (c : UInt8) (hs : s.length < 4294967281) (F : PH) : Spec Tryz.prog 12 [.string (strOf s), .string (strOf [c])] F [] fun u _ H' => ∃ b, u = .slice (some ⟨b, 0, none⟩) (splA c s).length (splA c s).length ∧ H' = [blk b 9 (strC (splA c s))] := by
  refine Spec.of2 Tryz.func12 rfl rfl fun X w0 => ?_
  repeat (first|refine zJ rfl rfl ?_|refine jr rfl ?_|refine jn ?_|refine zM rfl rfl ?_|(refine zC rfl rfl ?_ rfl ?_;omega)|(refine zD rfl rfl ?_ rfl ?_;omega)|(refine zP rfl ?_ rfl ?_;omega)|refine zG rfl rfl rfl rfl ?_|(refine jdq rfl rfl ?_ ?_ ?_;kernel_rfl;kernel_rfl)|refine zB rfl rfl rfl (by repeat constructor) rfl ?_|refine zH .here rfl rfl rfl rfl ?_|refine zH (.there .here) rfl rfl rfl rfl ?_|refine zH (.there (.there .here)) rfl rfl rfl rfl ?_|refine zH (.there (.there (.there .here))) rfl rfl rfl rfl ?_|refine zH (.there (.there (.there (.there .here)))) rfl rfl rfl rfl ?_)
  refine oC (Hc := []) (Hr := X) (genSplit_spec s c 1 (by decide) hs F) Tryz.call41 rfl rfl (fun _ s => s) ?_
  rintro _ F1 _ hF1 ⟨b, rfl, rfl⟩
  repeat (first|refine zJ rfl rfl ?_|refine jr rfl ?_|refine jn ?_|refine zM rfl rfl ?_|(refine zC rfl rfl ?_ rfl ?_;omega)|(refine zD rfl rfl ?_ rfl ?_;omega)|(refine zP rfl ?_ rfl ?_;omega)|refine zG rfl rfl rfl rfl ?_|(refine jdq rfl rfl ?_ ?_ ?_;kernel_rfl;kernel_rfl)|refine zB rfl rfl rfl (by repeat constructor) rfl ?_|refine zH .here rfl rfl rfl rfl ?_|refine zH (.there .here) rfl rfl rfl rfl ?_|refine zH (.there (.there .here)) rfl rfl rfl rfl ?_|refine zH (.there (.there (.there .here))) rfl rfl rfl rfl ?_|refine zH (.there (.there (.there (.there .here)))) rfl rfl rfl rfl ?_)
  exact J_ret1 rfl rfl [blk b 9 (strC (splA c s))] rfl hF1 ⟨b, rfl, rfl⟩
end Go.Proofs.YtekdmpbkcjjllaaGreatDoor
