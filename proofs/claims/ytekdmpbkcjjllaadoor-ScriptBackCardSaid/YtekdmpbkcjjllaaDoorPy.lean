/-
  The document's words of numbers, and when two steps are the same to it.
  The answers that the document fixes; which steps are asked about. Conditions are typed with each.
  What the listed variables give the walk; how much a line tells. Conditions are typed with each.
-/
import Derived.Test.YtekdmpbkcjjllaaDoorPx
import Derived.Test.YtekdmpbkcjjllaaDoorLf
import Derived.Test.YtekdmpbkcjjllaaDoorCards
import Derived.Test.YtekdmpbkcjjllaaDoorTie
import Derived.ProofKit
import Derived.LaidMore
import Derived.Lay
import Derived.OpenShut
import Derived.Stop.Joined
import Derived.Lib.LaidTab
import Derived.SevenTiedAt
namespace Go.Proofs.YtekdmpbkcjjllaaDoor
open Go.RowKit
set_option maxRecDepth 100000
theorem splW_words (ws : List W8) : ∀ (w : W8), 32 ∉ w → (∀ x ∈ ws, 32 ∉ x) → splW 32 (w ++ spW ws) = w :: ws := by
  induction ws with
  | nil =>
    intro w h _
    rw [spW_nil, List.append_nil]
    induction w with
    | nil => rfl
    | cons b r ih =>
      have hb : b ≠ 32 := fun e => h (by simp [e])
      rw [splW, if_neg hb, ih (fun e => h (List.mem_cons_of_mem _ e))]
  | cons x xs ihx =>
    intro w h hx
    induction w with
    | nil =>
      show splW 32 ((32 : UInt8) :: (x ++ spW xs)) = _
      rw [splW, if_pos rfl, ihx x (hx x (by simp)) fun y hy => hx y (by simp [hy])]
    | cons b r ih =>
      have hb : b ≠ 32 := fun e => h (by simp [e])
      show splW 32 (b :: (r ++ spW (x :: xs))) = _
      rw [splW, if_neg hb, ih (fun e => h (List.mem_cons_of_mem _ e))]
theorem itoa_chars {n : Int} (h : InI n) : ∀ c ∈ Lib.itoa n, c = 45 ∨ Dig c := by
  intro c hc
  unfold Lib.itoa at hc
  split at hc
  · rcases List.mem_cons.1 hc with e | e
    · exact .inl e
    · exact .inr (dec_dig _ c e)
  · exact .inr (dec_dig _ c hc)
theorem itoa_no {n : Int} (h : InI n) {c : UInt8} (hc : c.toNat < 45) : c ∉ Lib.itoa n := fun e => by
  rcases itoa_chars h c e with rfl | h2
  · exact absurd hc (by decide)
  · unfold Dig at h2; omega
theorem nums_no {l : List Int} (h : ∀ n ∈ l, InI n) {c : UInt8} (hc : c.toNat < 45) : ∀ x ∈ nums l, c ∉ x := fun x hx => by
  obtain ⟨n, hn, rfl⟩ := List.mem_map.1 hx
  exact itoa_no (h n hn) hc
theorem nums_inj : ∀ {l m : List Int}, (∀ n ∈ l, InI n) → (∀ n ∈ m, InI n) → nums l = nums m → l = m
  | [], [], _, _, _ => rfl
  | [], _ :: _, _, _, h => by cases h
  | _ :: _, [], _, _, h => by cases h
  | a :: l, b :: m, h1, h2, h => by
    have e := List.cons.inj h
    rw [itoa_inj (h1 a (by simp)) (h2 b (by simp)) e.1, nums_inj (fun n hn => h1 n (by simp [hn])) (fun n hn => h2 n (by simp [hn])) e.2]
theorem spW_nums_inj {l m : List Int} (h1 : ∀ n ∈ l, InI n) (h2 : ∀ n ∈ m, InI n) (h : spW (nums l) = spW (nums m)) : l = m := by
  have e1 := splW_words (nums l) [] (by simp) (nums_no h1 (by decide))
  have e2 := splW_words (nums m) [] (by simp) (nums_no h2 (by decide))
  rw [h, e2] at e1
  exact (nums_inj h2 h1 (List.cons.inj e1).2).symm
set_option maxHeartbeats 4000000 in
theorem words_spec (v : Value) (l : List Int) (F : PH) (hn : NumRow F v l) (hl : l.length ≤ 10000000) : Pure Tryd.prog 38 [v] F (.string (strOf (spW (nums l)))) := by
  obtain ⟨a, c, rfl, hc, hat⟩ := hn.at1
  refine Spec.of1 Tryd.func38 rfl rfl fun X w0 => ?_
  repeat (first|refine zJ rfl rfl ?_|refine jr rfl ?_|refine jn ?_|refine zM rfl rfl ?_|(refine zC rfl rfl ?_ rfl ?_;omega)|(refine zD rfl rfl ?_ rfl ?_;omega)|(refine zP rfl ?_ rfl ?_;omega)|refine zG rfl rfl rfl rfl ?_|(refine jdq rfl rfl ?_ ?_ ?_;kernel_rfl;kernel_rfl)|refine zB rfl rfl rfl (by repeat constructor) rfl ?_|refine zH .here rfl rfl rfl rfl ?_|refine zH (.there .here) rfl rfl rfl rfl ?_|refine zH (.there (.there .here)) rfl rfl rfl rfl ?_|refine zH (.there (.there (.there .here))) rfl rfl rfl rfl ?_|refine zH (.there (.there (.there (.there .here)))) rfl rfl rfl rfl ?_)
  refine J_loop (ι := Nat) (fun i => i ≤ l.length) (fun i => l.length - i) (fun i => [(3, .string (strOf (spW (nums (l.take i))))), (6, .slice a l.length c), (7, .int .i64 l.length), (8, .int .i64 i)]) (fun _ => F) (fun _ => X) 0 (Nat.zero_le _) ⟨⟨rfl, rfl, rfl, rfl, trivial⟩, fun w s => s⟩ ?_
  intro i hi
  by_cases hlt : i < l.length
  · have hg : l[i]? = some l[i] := List.getElem?_eq_getElem hlt
    have hx := hn.2 l[i] (List.getElem_mem hlt)
    have hle := spW_nums_len (l := l.take i) fun n h => hn.2 n (List.mem_of_mem_take h)
    rw [List.length_take, Nat.min_eq_left hi] at hle
    obtain ⟨b1, o1, rfl, hcc⟩ := hat i l[i] hg
    have hil := itoa_len hx
    have hsn : spW (nums (l.take (i + 1))) = (spW (nums (l.take i)) ++ [32]) ++ Lib.itoa l[i] := by
      rw [List.take_add_one, hg, Option.toList_some]
      unfold nums
      rw [List.map_append, spW_app, List.append_assoc]
      show _ ++ spW [Lib.itoa l[i]] = _
      rw [spW_one]
      rfl
    generalize l[i] = n at *
    generalize spW (nums (l.take i)) = bs at *
    repeat (first|refine zJ rfl rfl ?_|refine jr rfl ?_|refine jn ?_|refine zM rfl rfl ?_|(refine zC rfl rfl ?_ rfl ?_;omega)|(refine zD rfl rfl ?_ rfl ?_;omega)|(refine zP rfl ?_ rfl ?_;omega)|refine zG rfl rfl rfl rfl ?_|(refine jdq rfl rfl ?_ ?_ ?_;kernel_rfl;kernel_rfl)|refine zB rfl rfl rfl (by repeat constructor) rfl ?_|refine zH .here rfl rfl rfl rfl ?_|refine zH (.there .here) rfl rfl rfl rfl ?_|refine zH (.there (.there .here)) rfl rfl rfl rfl ?_|refine zH (.there (.there (.there .here))) rfl rfl rfl rfl ?_|refine zH (.there (.there (.there (.there .here)))) rfl rfl rfl rfl ?_)
    refine oS (ev_indexAddr rfl rfl rfl hlt) rfl ?_
    refine oS (ev_load rfl rfl (Rdb.ofF hcc)) rfl ?_
    repeat (first|refine zJ rfl rfl ?_|refine jr rfl ?_|refine jn ?_|refine zM rfl rfl ?_|(refine zC rfl rfl ?_ rfl ?_;omega)|(refine zD rfl rfl ?_ rfl ?_;omega)|(refine zP rfl ?_ rfl ?_;omega)|refine zG rfl rfl rfl rfl ?_|(refine jdq rfl rfl ?_ ?_ ?_;kernel_rfl;kernel_rfl)|refine zB rfl rfl rfl (by repeat constructor) rfl ?_|refine zH .here rfl rfl rfl rfl ?_|refine zH (.there .here) rfl rfl rfl rfl ?_|refine zH (.there (.there .here)) rfl rfl rfl rfl ?_|refine zH (.there (.there (.there .here))) rfl rfl rfl rfl ?_|refine zH (.there (.there (.there (.there .here)))) rfl rfl rfl rfl ?_)
    refine oS (ev_cat (b := [32]) rfl rfl (by simp; omega)) rfl ?_
    repeat (first|refine zJ rfl rfl ?_|refine jr rfl ?_|refine jn ?_|refine zM rfl rfl ?_|(refine zC rfl rfl ?_ rfl ?_;omega)|(refine zD rfl rfl ?_ rfl ?_;omega)|(refine zP rfl ?_ rfl ?_;omega)|refine zG rfl rfl rfl rfl ?_|(refine jdq rfl rfl ?_ ?_ ?_;kernel_rfl;kernel_rfl)|refine zB rfl rfl rfl (by repeat constructor) rfl ?_|refine zH .here rfl rfl rfl rfl ?_|refine zH (.there .here) rfl rfl rfl rfl ?_|refine zH (.there (.there .here)) rfl rfl rfl rfl ?_|refine zH (.there (.there (.there .here))) rfl rfl rfl rfl ?_|refine zH (.there (.there (.there (.there .here)))) rfl rfl rfl rfl ?_)
    refine oP (digits_spec n F hx) Tryd.call55 rfl rfl ?_
    refine oS (ev_cat rfl rfl (by simp; omega)) rfl ?_
    repeat (first|refine zJ rfl rfl ?_|refine jr rfl ?_|refine jn ?_|refine zM rfl rfl ?_|(refine zC rfl rfl ?_ rfl ?_;omega)|(refine zD rfl rfl ?_ rfl ?_;omega)|(refine zP rfl ?_ rfl ?_;omega)|refine zG rfl rfl rfl rfl ?_|(refine jdq rfl rfl ?_ ?_ ?_;kernel_rfl;kernel_rfl)|refine zB rfl rfl rfl (by repeat constructor) rfl ?_|refine zH .here rfl rfl rfl rfl ?_|refine zH (.there .here) rfl rfl rfl rfl ?_|refine zH (.there (.there .here)) rfl rfl rfl rfl ?_|refine zH (.there (.there (.there .here))) rfl rfl rfl rfl ?_|refine zH (.there (.there (.there (.there .here)))) rfl rfl rfl rfl ?_)
    exact J_again (i + 1) hlt (by omega) ⟨⟨congrArg (fun z => some (Value.string (strOf z))) hsn.symm, rfl, rfl, rfl, trivial⟩, fun w s => s⟩
  · obtain rfl : i = l.length := by omega
    rw [List.take_length]
    repeat (first|refine zJ rfl rfl ?_|refine jr rfl ?_|refine jn ?_|refine zM rfl rfl ?_|(refine zC rfl rfl ?_ rfl ?_;omega)|(refine zD rfl rfl ?_ rfl ?_;omega)|(refine zP rfl ?_ rfl ?_;omega)|refine zG rfl rfl rfl rfl ?_|(refine jdq rfl rfl ?_ ?_ ?_;kernel_rfl;kernel_rfl)|refine zB rfl rfl rfl (by repeat constructor) rfl ?_|refine zH .here rfl rfl rfl rfl ?_|refine zH (.there .here) rfl rfl rfl rfl ?_|refine zH (.there (.there .here)) rfl rfl rfl rfl ?_|refine zH (.there (.there (.there .here))) rfl rfl rfl rfl ?_|refine zH (.there (.there (.there (.there .here)))) rfl rfl rfl rfl ?_)
    exact J_ret1 rfl rfl [] rfl (PH.ler _) ⟨rfl, rfl⟩
set_option maxHeartbeats 32000000 in
theorem dsame_spec (a b : St) (va1 va2 va3 vb1 vb2 vb3 : Value) (F : PH) (ha : StOk F a va1 va2 va3) (hb : StOk F b vb1 vb2 vb3) (hol : a.orgs.length ≤ 10000000) (hol2 : b.orgs.length ≤ 10000000) (htl : a.tags.length ≤ 1000000000) : Pure Tryd.prog 11 [.agg (stC a va1 va2 va3).toArray, .agg (stC b vb1 vb2 vb3).toArray] F (.bool (sameB a b)) := by
  refine Spec.of2 Tryd.func11 rfl rfl fun X w0 => ?_
  obtain ⟨_, aoa, aoc, rfl, _, _⟩ := slice1 ha.orgs.1
  obtain ⟨_, boa, boc, rfl, _, _⟩ := slice1 hb.orgs.1
  obtain ⟨_, aba, abc, rfl, _, _⟩ := slice1 ha.body
  obtain ⟨_, bba, bbc, rfl, _, _⟩ := slice1 hb.body
  obtain ⟨ata, atc, rfl⟩ : ∃ ta tc, va3 = .slice ta a.tags.length tc := by
    obtain ⟨⟨_, a, c, e, _, _⟩, _⟩ := ha.tags
    exact ⟨a, c, e⟩
  obtain ⟨bta, btc, rfl⟩ : ∃ ta tc, vb3 = .slice ta b.tags.length tc := by
    obtain ⟨⟨_, a, c, e, _, _⟩, _⟩ := hb.tags
    exact ⟨a, c, e⟩
  have hwa := words_spec _ _ F ha.orgs hol
  have hwb := words_spec _ _ F hb.orgs hol2
  have hoa := ha.orgs.2
  have hob := hb.orgs.2
  have hta := ha.tags
  have htb := hb.tags
  have hba := ha.body
  have hbb := hb.body
  clear ha hb
  repeat (first|refine zJ rfl rfl ?_|refine jr rfl ?_|refine jn ?_|refine zM rfl rfl ?_|(refine zC rfl rfl ?_ rfl ?_;omega)|(refine zD rfl rfl ?_ rfl ?_;omega)|(refine zP rfl ?_ rfl ?_;omega)|refine zG rfl rfl rfl rfl ?_|(refine jdq rfl rfl ?_ ?_ ?_;kernel_rfl;kernel_rfl)|refine zB rfl rfl rfl (by repeat constructor) rfl ?_|refine zH .here rfl rfl rfl rfl ?_|refine zH (.there .here) rfl rfl rfl rfl ?_|refine zH (.there (.there .here)) rfl rfl rfl rfl ?_|refine zH (.there (.there (.there .here))) rfl rfl rfl rfl ?_|refine zH (.there (.there (.there (.there .here)))) rfl rfl rfl rfl ?_)
  refine oE (ev_box rfl .agg) rfl ?_; rintro _ _ _ _ ⟨rfl, b2, rfl, rfl⟩
  refine oE (ev_box rfl .agg) rfl ?_; rintro _ _ _ _ ⟨rfl, b3, rfl, rfl⟩
  repeat (first|refine zJ rfl rfl ?_|refine jr rfl ?_|refine jn ?_|refine zM rfl rfl ?_|(refine zC rfl rfl ?_ rfl ?_;omega)|(refine zD rfl rfl ?_ rfl ?_;omega)|(refine zP rfl ?_ rfl ?_;omega)|refine zG rfl rfl rfl rfl ?_|(refine jdq rfl rfl ?_ ?_ ?_;kernel_rfl;kernel_rfl)|refine zB rfl rfl rfl (by repeat constructor) rfl ?_|refine zH .here rfl rfl rfl rfl ?_|refine zH (.there .here) rfl rfl rfl rfl ?_|refine zH (.there (.there .here)) rfl rfl rfl rfl ?_|refine zH (.there (.there (.there .here))) rfl rfl rfl rfl ?_|refine zH (.there (.there (.there (.there .here)))) rfl rfl rfl rfl ?_)
  refine J_join (ι := Nat × Nat) [_] (fun _ => True) (fun p => [(2, .pointer (some ⟨b2, 0, none⟩)), (3, .pointer (some ⟨b3, 0, none⟩)), (5, .pointer (some ⟨p.1, 0, none⟩)), (6, .pointer (some ⟨p.2, 0, none⟩))]) (fun _ => F) (fun p => blk p.1 29 (msC a (.slice aba a.body.length abc) (.slice ata a.tags.length atc)) :: blk p.2 29 (msC b (.slice bba b.body.length bbc) (.slice bta b.tags.length btc)) :: blk b3 31 (stC b (.slice boa b.orgs.length boc) (.slice bba b.body.length bbc) (.slice bta b.tags.length btc)) :: blk b2 31 (stC a (.slice aoa a.orgs.length aoc) (.slice aba a.body.length abc) (.slice ata a.tags.length atc)) :: X) ?_ ?_
  · show J _ (_ :: _) _ _ _
    refine ja F [blk b3 31 (stC b (.slice boa b.orgs.length boc) (.slice bba b.body.length bbc) (.slice bta b.tags.length btc)), blk b2 31 (stC a (.slice aoa a.orgs.length aoc) (.slice aba a.body.length abc) (.slice ata a.tags.length atc))] ?_ ?_ ?_; kernel_rfl
    · exact fun w s => Sat.left (A := [_, _]) s
    refine aT 0 rfl (ev_qe rfl) rfl rfl ?_ ?_ ?_ ?_; kernel_rfl; kernel_rfl; kernel_rfl
    refine aT 1 rfl (ev_load_agg (cs := msC a (.slice aba a.body.length abc) (.slice ata a.tags.length atc)) rfl rfl (Rdb.ofB (n := 0) (.there .here) rfl) rfl) rfl rfl ?_ ?_ ?_ ?_; kernel_rfl; kernel_rfl; kernel_rfl
    refine aT 2 rfl (ev_qe rfl) rfl rfl ?_ ?_ ?_ ?_; kernel_rfl; kernel_rfl; kernel_rfl
    refine aT 3 rfl (ev_load_agg (cs := msC b (.slice bba b.body.length bbc) (.slice bta b.tags.length btc)) rfl rfl (Rdb.ofB (n := 0) .here rfl) rfl) rfl rfl ?_ ?_ ?_ ?_; kernel_rfl; kernel_rfl; kernel_rfl
    refine aB2 (i := 4) (i' := 5) (by kernel_rfl) ?_ ?_
    · refine aE rfl (ev_alloc (cs := msC zSt nl nl) rfl) rfl rfl (fun _ _ _ _ hq w s => by obtain ⟨rfl, b9, _, rfl⟩ := hq; exact Sat.left (A := [_, _]) s.drop) ?_
      rintro _ _ _ _ ⟨rfl, b5, rfl, rfl⟩
      refine aB (i := 5) (by kernel_rfl) (aE rfl (ev_alloc (cs := msC zSt nl nl) rfl) rfl rfl (fun _ _ _ _ hq w s => by obtain ⟨rfl, b9, _, rfl⟩ := hq; exact Sat.left (A := [_, _]) s.drop.drop) ?_)
      rintro _ _ _ _ ⟨rfl, b6, rfl, rfl⟩
      refine aB (i := 6) (by kernel_rfl) (aN rfl (ev_store rfl rfl .agg rfl rfl (lay_all (zs := msC zSt nl nl) rfl) (by unfold msC; (repeat (first | exact ones_nil | refine ones_cons rfl ?_))) (.there .here)) rfl (fun _ _ _ _ hq w s => by obtain ⟨rfl, _, rfl⟩ := hq; exact Sat.left (A := [_, _]) s.drop.drop) ?_)
      rintro _ _ _ _ ⟨rfl, _, rfl⟩
      refine aB (i := 7) (by kernel_rfl) (aN rfl (ev_store rfl rfl .agg rfl rfl (lay_all (zs := msC zSt nl nl) rfl) (by unfold msC; (repeat (first | exact ones_nil | refine ones_cons rfl ?_))) .here) rfl (fun _ _ _ _ hq w s => by obtain ⟨rfl, _, rfl⟩ := hq; exact Sat.left (A := [_, _]) s.drop.drop) ?_)
      rintro _ _ _ _ ⟨rfl, _, rfl⟩
      refine aD (by kernel_rfl) ?_
      exact J_joined (ι := Nat × Nat) (b5, b6) trivial ⟨⟨rfl, rfl, rfl, rfl, trivial⟩, fun w s => s.pick (.there .here)⟩
    · refine aE rfl (ev_alloc (cs := msC zSt nl nl) rfl) rfl rfl (fun _ _ _ _ hq w s => by obtain ⟨rfl, b9, _, rfl⟩ := hq; exact Sat.left (A := [_, _]) s.drop) ?_
      rintro _ _ _ _ ⟨rfl, b6, rfl, rfl⟩
      refine aB (i := 4) (by kernel_rfl) (aE rfl (ev_alloc (cs := msC zSt nl nl) rfl) rfl rfl (fun _ _ _ _ hq w s => by obtain ⟨rfl, b9, _, rfl⟩ := hq; exact Sat.left (A := [_, _]) s.drop.drop) ?_)
      rintro _ _ _ _ ⟨rfl, b5, rfl, rfl⟩
      refine aB (i := 6) (by kernel_rfl) (aN rfl (ev_store rfl rfl .agg rfl rfl (lay_all (zs := msC zSt nl nl) rfl) (by unfold msC; (repeat (first | exact ones_nil | refine ones_cons rfl ?_))) .here) rfl (fun _ _ _ _ hq w s => by obtain ⟨rfl, _, rfl⟩ := hq; exact Sat.left (A := [_, _]) s.drop.drop) ?_)
      rintro _ _ _ _ ⟨rfl, _, rfl⟩
      refine aB (i := 7) (by kernel_rfl) (aN rfl (ev_store rfl rfl .agg rfl rfl (lay_all (zs := msC zSt nl nl) rfl) (by unfold msC; (repeat (first | exact ones_nil | refine ones_cons rfl ?_))) (.there .here)) rfl (fun _ _ _ _ hq w s => by obtain ⟨rfl, _, rfl⟩ := hq; exact Sat.left (A := [_, _]) s.drop.drop) ?_)
      rintro _ _ _ _ ⟨rfl, _, rfl⟩
      refine aD (by kernel_rfl) ?_
      exact J_joined (ι := Nat × Nat) (b5, b6) trivial ⟨⟨rfl, rfl, rfl, rfl, trivial⟩, fun w s => s⟩
  rintro ⟨b5, b6⟩ _
  dsimp only
  have hno : a ≠ b → sameB a b = false := fun h => by
    cases e : sameB a b with
    | false => rfl
    | true => exact absurd ((sameB_iff a b).1 e) h
  by_cases h1 : a.kind = b.kind
  rotate_left
  · rw [hno fun e => h1 (by rw [e])]
    repeat (first|refine zJ rfl rfl ?_|refine jr rfl ?_|refine jn ?_|refine zM rfl rfl ?_|(refine zC rfl rfl ?_ rfl ?_;omega)|(refine zD rfl rfl ?_ rfl ?_;omega)|(refine zP rfl ?_ rfl ?_;omega)|refine zG rfl rfl rfl rfl ?_|(refine jdq rfl rfl ?_ ?_ ?_;kernel_rfl;kernel_rfl)|refine zB rfl rfl rfl (by repeat constructor) rfl ?_|refine zH .here rfl rfl rfl rfl ?_|refine zH (.there .here) rfl rfl rfl rfl ?_|refine zH (.there (.there .here)) rfl rfl rfl rfl ?_|refine zH (.there (.there (.there .here))) rfl rfl rfl rfl ?_|refine zH (.there (.there (.there (.there .here)))) rfl rfl rfl rfl ?_)
    refine jd rfl ?_ ?_ ?_; kernel_rfl; kernel_rfl
    repeat (first|refine zJ rfl rfl ?_|refine jr rfl ?_|refine jn ?_|refine zM rfl rfl ?_|(refine zC rfl rfl ?_ rfl ?_;omega)|(refine zD rfl rfl ?_ rfl ?_;omega)|(refine zP rfl ?_ rfl ?_;omega)|refine zG rfl rfl rfl rfl ?_|(refine jdq rfl rfl ?_ ?_ ?_;kernel_rfl;kernel_rfl)|refine zB rfl rfl rfl (by repeat constructor) rfl ?_|refine zH .here rfl rfl rfl rfl ?_|refine zH (.there .here) rfl rfl rfl rfl ?_|refine zH (.there (.there .here)) rfl rfl rfl rfl ?_|refine zH (.there (.there (.there .here))) rfl rfl rfl rfl ?_|refine zH (.there (.there (.there (.there .here)))) rfl rfl rfl rfl ?_)
    exact J_retv rfl (.tmp rfl .nil) [] (fun w s => s.drop.drop.drop.drop) (PH.ler _) ⟨rfl, rfl⟩
  by_cases h2 : a.who = b.who
  rotate_left
  · rw [hno fun e => h2 (by rw [e])]
    repeat (first|refine zJ rfl rfl ?_|refine jr rfl ?_|refine jn ?_|refine zM rfl rfl ?_|(refine zC rfl rfl ?_ rfl ?_;omega)|(refine zD rfl rfl ?_ rfl ?_;omega)|(refine zP rfl ?_ rfl ?_;omega)|refine zG rfl rfl rfl rfl ?_|(refine jdq rfl rfl ?_ ?_ ?_;kernel_rfl;kernel_rfl)|refine zB rfl rfl rfl (by repeat constructor) rfl ?_|refine zH .here rfl rfl rfl rfl ?_|refine zH (.there .here) rfl rfl rfl rfl ?_|refine zH (.there (.there .here)) rfl rfl rfl rfl ?_|refine zH (.there (.there (.there .here))) rfl rfl rfl rfl ?_|refine zH (.there (.there (.there (.there .here)))) rfl rfl rfl rfl ?_)
    refine jd rfl ?_ ?_ ?_; kernel_rfl; kernel_rfl
    repeat (first|refine zJ rfl rfl ?_|refine jr rfl ?_|refine jn ?_|refine zM rfl rfl ?_|(refine zC rfl rfl ?_ rfl ?_;omega)|(refine zD rfl rfl ?_ rfl ?_;omega)|(refine zP rfl ?_ rfl ?_;omega)|refine zG rfl rfl rfl rfl ?_|(refine jdq rfl rfl ?_ ?_ ?_;kernel_rfl;kernel_rfl)|refine zB rfl rfl rfl (by repeat constructor) rfl ?_|refine zH .here rfl rfl rfl rfl ?_|refine zH (.there .here) rfl rfl rfl rfl ?_|refine zH (.there (.there .here)) rfl rfl rfl rfl ?_|refine zH (.there (.there (.there .here))) rfl rfl rfl rfl ?_|refine zH (.there (.there (.there (.there .here)))) rfl rfl rfl rfl ?_)
    exact J_retv rfl (.tmp rfl .nil) [] (fun w s => s.drop.drop.drop.drop) (PH.ler _) ⟨rfl, rfl⟩
  by_cases h3 : a.to = b.to
  rotate_left
  · rw [hno fun e => h3 (by rw [e])]
    repeat (first|refine zJ rfl rfl ?_|refine jr rfl ?_|refine jn ?_|refine zM rfl rfl ?_|(refine zC rfl rfl ?_ rfl ?_;omega)|(refine zD rfl rfl ?_ rfl ?_;omega)|(refine zP rfl ?_ rfl ?_;omega)|refine zG rfl rfl rfl rfl ?_|(refine jdq rfl rfl ?_ ?_ ?_;kernel_rfl;kernel_rfl)|refine zB rfl rfl rfl (by repeat constructor) rfl ?_|refine zH .here rfl rfl rfl rfl ?_|refine zH (.there .here) rfl rfl rfl rfl ?_|refine zH (.there (.there .here)) rfl rfl rfl rfl ?_|refine zH (.there (.there (.there .here))) rfl rfl rfl rfl ?_|refine zH (.there (.there (.there (.there .here)))) rfl rfl rfl rfl ?_)
    refine jd rfl ?_ ?_ ?_; kernel_rfl; kernel_rfl
    repeat (first|refine zJ rfl rfl ?_|refine jr rfl ?_|refine jn ?_|refine zM rfl rfl ?_|(refine zC rfl rfl ?_ rfl ?_;omega)|(refine zD rfl rfl ?_ rfl ?_;omega)|(refine zP rfl ?_ rfl ?_;omega)|refine zG rfl rfl rfl rfl ?_|(refine jdq rfl rfl ?_ ?_ ?_;kernel_rfl;kernel_rfl)|refine zB rfl rfl rfl (by repeat constructor) rfl ?_|refine zH .here rfl rfl rfl rfl ?_|refine zH (.there .here) rfl rfl rfl rfl ?_|refine zH (.there (.there .here)) rfl rfl rfl rfl ?_|refine zH (.there (.there (.there .here))) rfl rfl rfl rfl ?_|refine zH (.there (.there (.there (.there .here)))) rfl rfl rfl rfl ?_)
    exact J_retv rfl (.tmp rfl .nil) [] (fun w s => s.drop.drop.drop.drop) (PH.ler _) ⟨rfl, rfl⟩
  by_cases h4 : a.at_ = b.at_
  rotate_left
  · rw [hno fun e => h4 (by rw [e])]
    repeat (first|refine zJ rfl rfl ?_|refine jr rfl ?_|refine jn ?_|refine zM rfl rfl ?_|(refine zC rfl rfl ?_ rfl ?_;omega)|(refine zD rfl rfl ?_ rfl ?_;omega)|(refine zP rfl ?_ rfl ?_;omega)|refine zG rfl rfl rfl rfl ?_|(refine jdq rfl rfl ?_ ?_ ?_;kernel_rfl;kernel_rfl)|refine zB rfl rfl rfl (by repeat constructor) rfl ?_|refine zH .here rfl rfl rfl rfl ?_|refine zH (.there .here) rfl rfl rfl rfl ?_|refine zH (.there (.there .here)) rfl rfl rfl rfl ?_|refine zH (.there (.there (.there .here))) rfl rfl rfl rfl ?_|refine zH (.there (.there (.there (.there .here)))) rfl rfl rfl rfl ?_)
    refine jd rfl ?_ ?_ ?_; kernel_rfl; kernel_rfl
    repeat (first|refine zJ rfl rfl ?_|refine jr rfl ?_|refine jn ?_|refine zM rfl rfl ?_|(refine zC rfl rfl ?_ rfl ?_;omega)|(refine zD rfl rfl ?_ rfl ?_;omega)|(refine zP rfl ?_ rfl ?_;omega)|refine zG rfl rfl rfl rfl ?_|(refine jdq rfl rfl ?_ ?_ ?_;kernel_rfl;kernel_rfl)|refine zB rfl rfl rfl (by repeat constructor) rfl ?_|refine zH .here rfl rfl rfl rfl ?_|refine zH (.there .here) rfl rfl rfl rfl ?_|refine zH (.there (.there .here)) rfl rfl rfl rfl ?_|refine zH (.there (.there (.there .here))) rfl rfl rfl rfl ?_|refine zH (.there (.there (.there (.there .here)))) rfl rfl rfl rfl ?_)
    exact J_retv rfl (.tmp rfl .nil) [] (fun w s => s.drop.drop.drop.drop) (PH.ler _) ⟨rfl, rfl⟩
  repeat (first|refine zJ rfl rfl ?_|refine jr rfl ?_|refine jn ?_|refine zM rfl rfl ?_|(refine zC rfl rfl ?_ rfl ?_;omega)|(refine zD rfl rfl ?_ rfl ?_;omega)|(refine zP rfl ?_ rfl ?_;omega)|refine zG rfl rfl rfl rfl ?_|(refine jdq rfl rfl ?_ ?_ ?_;kernel_rfl;kernel_rfl)|refine zB rfl rfl rfl (by repeat constructor) rfl ?_|refine zH .here rfl rfl rfl rfl ?_|refine zH (.there .here) rfl rfl rfl rfl ?_|refine zH (.there (.there .here)) rfl rfl rfl rfl ?_|refine zH (.there (.there (.there .here))) rfl rfl rfl rfl ?_|refine zH (.there (.there (.there (.there .here)))) rfl rfl rfl rfl ?_)
  refine jd rfl ?_ ?_ ?_; kernel_rfl; kernel_rfl
  repeat (first|refine zJ rfl rfl ?_|refine jr rfl ?_|refine jn ?_|refine zM rfl rfl ?_|(refine zC rfl rfl ?_ rfl ?_;omega)|(refine zD rfl rfl ?_ rfl ?_;omega)|(refine zP rfl ?_ rfl ?_;omega)|refine zG rfl rfl rfl rfl ?_|(refine jdq rfl rfl ?_ ?_ ?_;kernel_rfl;kernel_rfl)|refine zB rfl rfl rfl (by repeat constructor) rfl ?_|refine zH .here rfl rfl rfl rfl ?_|refine zH (.there .here) rfl rfl rfl rfl ?_|refine zH (.there (.there .here)) rfl rfl rfl rfl ?_|refine zH (.there (.there (.there .here))) rfl rfl rfl rfl ?_|refine zH (.there (.there (.there (.there .here)))) rfl rfl rfl rfl ?_)
  refine oS (ev_load_agg (cs := coC a.core) rfl rfl (Rdb.ofB (n := 4) (.there (.there (.there .here))) rfl) rfl) rfl ?_
  repeat (first|refine zJ rfl rfl ?_|refine jr rfl ?_|refine jn ?_|refine zM rfl rfl ?_|(refine zC rfl rfl ?_ rfl ?_;omega)|(refine zD rfl rfl ?_ rfl ?_;omega)|(refine zP rfl ?_ rfl ?_;omega)|refine zG rfl rfl rfl rfl ?_|(refine jdq rfl rfl ?_ ?_ ?_;kernel_rfl;kernel_rfl)|refine zB rfl rfl rfl (by repeat constructor) rfl ?_|refine zH .here rfl rfl rfl rfl ?_|refine zH (.there .here) rfl rfl rfl rfl ?_|refine zH (.there (.there .here)) rfl rfl rfl rfl ?_|refine zH (.there (.there (.there .here))) rfl rfl rfl rfl ?_|refine zH (.there (.there (.there (.there .here)))) rfl rfl rfl rfl ?_)
  refine oS (ev_load_agg (cs := coC b.core) rfl rfl (Rdb.ofB (n := 4) (.there (.there .here)) rfl) rfl) rfl ?_
  refine oS (ev_st_neq (r := coB a.core b.core) rfl rfl (by kernel_rfl) (by kernel_rfl) (by kernel_rfl) (coB_eq a.core b.core)) rfl ?_
  cases h5 : coB a.core b.core with
  | false =>
    rw [hno fun e => by rw [e, (coB_iff b.core b.core).2 rfl] at h5; cases h5]
    dsimp only [Bool.not]
    repeat (first|refine zJ rfl rfl ?_|refine jr rfl ?_|refine jn ?_|refine zM rfl rfl ?_|(refine zC rfl rfl ?_ rfl ?_;omega)|(refine zD rfl rfl ?_ rfl ?_;omega)|(refine zP rfl ?_ rfl ?_;omega)|refine zG rfl rfl rfl rfl ?_|(refine jdq rfl rfl ?_ ?_ ?_;kernel_rfl;kernel_rfl)|refine zB rfl rfl rfl (by repeat constructor) rfl ?_|refine zH .here rfl rfl rfl rfl ?_|refine zH (.there .here) rfl rfl rfl rfl ?_|refine zH (.there (.there .here)) rfl rfl rfl rfl ?_|refine zH (.there (.there (.there .here))) rfl rfl rfl rfl ?_|refine zH (.there (.there (.there (.there .here)))) rfl rfl rfl rfl ?_)
    exact J_retv rfl (.tmp rfl .nil) [] (fun w s => s.drop.drop.drop.drop) (PH.ler _) ⟨rfl, rfl⟩
  | true =>
  dsimp only [Bool.not]
  by_cases h6 : a.blank = b.blank
  rotate_left
  · rw [hno fun e => h6 (by rw [e])]
    repeat (first|refine zJ rfl rfl ?_|refine jr rfl ?_|refine jn ?_|refine zM rfl rfl ?_|(refine zC rfl rfl ?_ rfl ?_;omega)|(refine zD rfl rfl ?_ rfl ?_;omega)|(refine zP rfl ?_ rfl ?_;omega)|refine zG rfl rfl rfl rfl ?_|(refine jdq rfl rfl ?_ ?_ ?_;kernel_rfl;kernel_rfl)|refine zB rfl rfl rfl (by repeat constructor) rfl ?_|refine zH .here rfl rfl rfl rfl ?_|refine zH (.there .here) rfl rfl rfl rfl ?_|refine zH (.there (.there .here)) rfl rfl rfl rfl ?_|refine zH (.there (.there (.there .here))) rfl rfl rfl rfl ?_|refine zH (.there (.there (.there (.there .here)))) rfl rfl rfl rfl ?_)
    exact J_retv rfl (.tmp rfl .nil) [] (fun w s => s.drop.drop.drop.drop) (PH.ler _) ⟨rfl, rfl⟩
  repeat (first|refine zJ rfl rfl ?_|refine jr rfl ?_|refine jn ?_|refine zM rfl rfl ?_|(refine zC rfl rfl ?_ rfl ?_;omega)|(refine zD rfl rfl ?_ rfl ?_;omega)|(refine zP rfl ?_ rfl ?_;omega)|refine zG rfl rfl rfl rfl ?_|(refine jdq rfl rfl ?_ ?_ ?_;kernel_rfl;kernel_rfl)|refine zB rfl rfl rfl (by repeat constructor) rfl ?_|refine zH .here rfl rfl rfl rfl ?_|refine zH (.there .here) rfl rfl rfl rfl ?_|refine zH (.there (.there .here)) rfl rfl rfl rfl ?_|refine zH (.there (.there (.there .here))) rfl rfl rfl rfl ?_|refine zH (.there (.there (.there (.there .here)))) rfl rfl rfl rfl ?_)
  refine oP (hwa) Tryd.call38 rfl rfl ?_
  repeat (first|refine zJ rfl rfl ?_|refine jr rfl ?_|refine jn ?_|refine zM rfl rfl ?_|(refine zC rfl rfl ?_ rfl ?_;omega)|(refine zD rfl rfl ?_ rfl ?_;omega)|(refine zP rfl ?_ rfl ?_;omega)|refine zG rfl rfl rfl rfl ?_|(refine jdq rfl rfl ?_ ?_ ?_;kernel_rfl;kernel_rfl)|refine zB rfl rfl rfl (by repeat constructor) rfl ?_|refine zH .here rfl rfl rfl rfl ?_|refine zH (.there .here) rfl rfl rfl rfl ?_|refine zH (.there (.there .here)) rfl rfl rfl rfl ?_|refine zH (.there (.there (.there .here))) rfl rfl rfl rfl ?_|refine zH (.there (.there (.there (.there .here)))) rfl rfl rfl rfl ?_)
  refine oP (hwb) Tryd.call38 rfl rfl ?_
  by_cases h7 : a.orgs = b.orgs
  rotate_left
  · rw [hno fun e => h7 (by rw [e])]
    refine oS (ev_sneq (r := true) rfl rfl (by simpa using fun e => h7 (spW_nums_inj hoa hob e))) rfl ?_
    repeat (first|refine zJ rfl rfl ?_|refine jr rfl ?_|refine jn ?_|refine zM rfl rfl ?_|(refine zC rfl rfl ?_ rfl ?_;omega)|(refine zD rfl rfl ?_ rfl ?_;omega)|(refine zP rfl ?_ rfl ?_;omega)|refine zG rfl rfl rfl rfl ?_|(refine jdq rfl rfl ?_ ?_ ?_;kernel_rfl;kernel_rfl)|refine zB rfl rfl rfl (by repeat constructor) rfl ?_|refine zH .here rfl rfl rfl rfl ?_|refine zH (.there .here) rfl rfl rfl rfl ?_|refine zH (.there (.there .here)) rfl rfl rfl rfl ?_|refine zH (.there (.there (.there .here))) rfl rfl rfl rfl ?_|refine zH (.there (.there (.there (.there .here)))) rfl rfl rfl rfl ?_)
    exact J_retv rfl (.tmp rfl .nil) [] (fun w s => s.drop.drop.drop.drop) (PH.ler _) ⟨rfl, rfl⟩
  refine oS (ev_sneq (r := false) rfl rfl (by simp [h7])) rfl ?_
  by_cases h8 : a.mk1 = b.mk1
  rotate_left
  · rw [hno fun e => h8 (by rw [e])]
    repeat (first|refine zJ rfl rfl ?_|refine jr rfl ?_|refine jn ?_|refine zM rfl rfl ?_|(refine zC rfl rfl ?_ rfl ?_;omega)|(refine zD rfl rfl ?_ rfl ?_;omega)|(refine zP rfl ?_ rfl ?_;omega)|refine zG rfl rfl rfl rfl ?_|(refine jdq rfl rfl ?_ ?_ ?_;kernel_rfl;kernel_rfl)|refine zB rfl rfl rfl (by repeat constructor) rfl ?_|refine zH .here rfl rfl rfl rfl ?_|refine zH (.there .here) rfl rfl rfl rfl ?_|refine zH (.there (.there .here)) rfl rfl rfl rfl ?_|refine zH (.there (.there (.there .here))) rfl rfl rfl rfl ?_|refine zH (.there (.there (.there (.there .here)))) rfl rfl rfl rfl ?_)
    exact J_retv rfl (.tmp rfl .nil) [] (fun w s => s.drop.drop.drop.drop) (PH.ler _) ⟨rfl, rfl⟩
  by_cases h9 : a.mf1 = b.mf1
  rotate_left
  · rw [hno fun e => h9 (by rw [e])]
    repeat (first|refine zJ rfl rfl ?_|refine jr rfl ?_|refine jn ?_|refine zM rfl rfl ?_|(refine zC rfl rfl ?_ rfl ?_;omega)|(refine zD rfl rfl ?_ rfl ?_;omega)|(refine zP rfl ?_ rfl ?_;omega)|refine zG rfl rfl rfl rfl ?_|(refine jdq rfl rfl ?_ ?_ ?_;kernel_rfl;kernel_rfl)|refine zB rfl rfl rfl (by repeat constructor) rfl ?_|refine zH .here rfl rfl rfl rfl ?_|refine zH (.there .here) rfl rfl rfl rfl ?_|refine zH (.there (.there .here)) rfl rfl rfl rfl ?_|refine zH (.there (.there (.there .here))) rfl rfl rfl rfl ?_|refine zH (.there (.there (.there (.there .here)))) rfl rfl rfl rfl ?_)
    exact J_retv rfl (.tmp rfl .nil) [] (fun w s => s.drop.drop.drop.drop) (PH.ler _) ⟨rfl, rfl⟩
  repeat (first|refine zJ rfl rfl ?_|refine jr rfl ?_|refine jn ?_|refine zM rfl rfl ?_|(refine zC rfl rfl ?_ rfl ?_;omega)|(refine zD rfl rfl ?_ rfl ?_;omega)|(refine zP rfl ?_ rfl ?_;omega)|refine zG rfl rfl rfl rfl ?_|(refine jdq rfl rfl ?_ ?_ ?_;kernel_rfl;kernel_rfl)|refine zB rfl rfl rfl (by repeat constructor) rfl ?_|refine zH .here rfl rfl rfl rfl ?_|refine zH (.there .here) rfl rfl rfl rfl ?_|refine zH (.there (.there .here)) rfl rfl rfl rfl ?_|refine zH (.there (.there (.there .here))) rfl rfl rfl rfl ?_|refine zH (.there (.there (.there (.there .here)))) rfl rfl rfl rfl ?_)
  refine oS (eb_string rfl (SliceV.rds hba)) rfl ?_
  repeat (first|refine zJ rfl rfl ?_|refine jr rfl ?_|refine jn ?_|refine zM rfl rfl ?_|(refine zC rfl rfl ?_ rfl ?_;omega)|(refine zD rfl rfl ?_ rfl ?_;omega)|(refine zP rfl ?_ rfl ?_;omega)|refine zG rfl rfl rfl rfl ?_|(refine jdq rfl rfl ?_ ?_ ?_;kernel_rfl;kernel_rfl)|refine zB rfl rfl rfl (by repeat constructor) rfl ?_|refine zH .here rfl rfl rfl rfl ?_|refine zH (.there .here) rfl rfl rfl rfl ?_|refine zH (.there (.there .here)) rfl rfl rfl rfl ?_|refine zH (.there (.there (.there .here))) rfl rfl rfl rfl ?_|refine zH (.there (.there (.there (.there .here)))) rfl rfl rfl rfl ?_)
  refine oS (eb_string rfl (SliceV.rds hbb)) rfl ?_
  by_cases h10 : a.body = b.body
  rotate_left
  · rw [hno fun e => h10 (by rw [e])]
    refine oS (ev_sneq (r := true) rfl rfl (by simpa using h10)) rfl ?_
    repeat (first|refine zJ rfl rfl ?_|refine jr rfl ?_|refine jn ?_|refine zM rfl rfl ?_|(refine zC rfl rfl ?_ rfl ?_;omega)|(refine zD rfl rfl ?_ rfl ?_;omega)|(refine zP rfl ?_ rfl ?_;omega)|refine zG rfl rfl rfl rfl ?_|(refine jdq rfl rfl ?_ ?_ ?_;kernel_rfl;kernel_rfl)|refine zB rfl rfl rfl (by repeat constructor) rfl ?_|refine zH .here rfl rfl rfl rfl ?_|refine zH (.there .here) rfl rfl rfl rfl ?_|refine zH (.there (.there .here)) rfl rfl rfl rfl ?_|refine zH (.there (.there (.there .here))) rfl rfl rfl rfl ?_|refine zH (.there (.there (.there (.there .here)))) rfl rfl rfl rfl ?_)
    exact J_retv rfl (.tmp rfl .nil) [] (fun w s => s.drop.drop.drop.drop) (PH.ler _) ⟨rfl, rfl⟩
  refine oS (ev_sneq (r := false) rfl rfl (by simpa using h10)) rfl ?_
  by_cases hln : a.tags.length = b.tags.length
  rotate_left
  · rw [hno fun e => hln (by rw [e])]
    repeat (first|refine zJ rfl rfl ?_|refine jr rfl ?_|refine jn ?_|refine zM rfl rfl ?_|(refine zC rfl rfl ?_ rfl ?_;omega)|(refine zD rfl rfl ?_ rfl ?_;omega)|(refine zP rfl ?_ rfl ?_;omega)|refine zG rfl rfl rfl rfl ?_|(refine jdq rfl rfl ?_ ?_ ?_;kernel_rfl;kernel_rfl)|refine zB rfl rfl rfl (by repeat constructor) rfl ?_|refine zH .here rfl rfl rfl rfl ?_|refine zH (.there .here) rfl rfl rfl rfl ?_|refine zH (.there (.there .here)) rfl rfl rfl rfl ?_|refine zH (.there (.there (.there .here))) rfl rfl rfl rfl ?_|refine zH (.there (.there (.there (.there .here)))) rfl rfl rfl rfl ?_)
    exact J_retv rfl (.tmp rfl .nil) [] (fun w s => s.drop.drop.drop.drop) (PH.ler _) ⟨rfl, rfl⟩
  repeat (first|refine zJ rfl rfl ?_|refine jr rfl ?_|refine jn ?_|refine zM rfl rfl ?_|(refine zC rfl rfl ?_ rfl ?_;omega)|(refine zD rfl rfl ?_ rfl ?_;omega)|(refine zP rfl ?_ rfl ?_;omega)|refine zG rfl rfl rfl rfl ?_|(refine jdq rfl rfl ?_ ?_ ?_;kernel_rfl;kernel_rfl)|refine zB rfl rfl rfl (by repeat constructor) rfl ?_|refine zH .here rfl rfl rfl rfl ?_|refine zH (.there .here) rfl rfl rfl rfl ?_|refine zH (.there (.there .here)) rfl rfl rfl rfl ?_|refine zH (.there (.there (.there .here))) rfl rfl rfl rfl ?_|refine zH (.there (.there (.there (.there .here)))) rfl rfl rfl rfl ?_)
  have hu : ∀ {l : List W8}, (∀ t ∈ l, t.length = 32) → ∀ c ∈ l.map u8s, c.length = 32 := fun h c hc => by
    obtain ⟨t, ht, rfl⟩ := List.mem_map.1 hc
    rw [u8s_len, h t ht]
  refine J_loop (ι := Nat) (fun i => i ≤ a.tags.length ∧ a.tags.take i = b.tags.take i) (fun i => a.tags.length - i) (fun i => [(5, .pointer (some ⟨b5, 0, none⟩)), (6, .pointer (some ⟨b6, 0, none⟩)), (93, .int .i64 a.tags.length), (94, .int .i64 i)]) (fun _ => F) (fun _ => blk b5 29 (msC a (.slice aba a.body.length abc) (.slice ata a.tags.length atc)) :: blk b6 29 (msC b (.slice bba b.body.length bbc) (.slice bta b.tags.length btc)) :: blk b3 31 (stC b (.slice boa b.orgs.length boc) (.slice bba b.body.length bbc) (.slice bta b.tags.length btc)) :: blk b2 31 (stC a (.slice aoa a.orgs.length aoc) (.slice aba a.body.length abc) (.slice ata a.tags.length atc)) :: X) 0 ⟨Nat.zero_le _, rfl⟩ ⟨⟨rfl, rfl, rfl, rfl, trivial⟩, fun w s => s⟩ ?_
  rintro i ⟨hi, he⟩
  by_cases hlt : i < a.tags.length
  · have hlt2 : i < b.tags.length := by omega
    have hg1 : a.tags[i]? = some a.tags[i] := List.getElem?_eq_getElem hlt
    have hg2 : b.tags[i]? = some b.tags[i] := List.getElem?_eq_getElem hlt2
    have q1 := hta.2 _ (List.getElem_mem hlt)
    have q2 := htb.2 _ (List.getElem_mem hlt2)
    obtain ⟨p1, o1, rfl, hcc1⟩ := SliceV.row hta.1 (hu hta.2) (i := i) (r := u8s a.tags[i]) (by rw [List.getElem?_map, hg1]; rfl) hlt
    obtain ⟨p2, o2, rfl, hcc2⟩ := SliceV.row htb.1 (hu htb.2) (i := i) (r := u8s b.tags[i]) (by rw [List.getElem?_map, hg2]; rfl) hlt2
    generalize hx : a.tags[i] = x at *
    generalize hy : b.tags[i] = y at *
    repeat (first|refine zJ rfl rfl ?_|refine jr rfl ?_|refine jn ?_|refine zM rfl rfl ?_|(refine zC rfl rfl ?_ rfl ?_;omega)|(refine zD rfl rfl ?_ rfl ?_;omega)|(refine zP rfl ?_ rfl ?_;omega)|refine zG rfl rfl rfl rfl ?_|(refine jdq rfl rfl ?_ ?_ ?_;kernel_rfl;kernel_rfl)|refine zB rfl rfl rfl (by repeat constructor) rfl ?_|refine zH .here rfl rfl rfl rfl ?_|refine zH (.there .here) rfl rfl rfl rfl ?_|refine zH (.there (.there .here)) rfl rfl rfl rfl ?_|refine zH (.there (.there (.there .here))) rfl rfl rfl rfl ?_|refine zH (.there (.there (.there (.there .here)))) rfl rfl rfl rfl ?_)
    refine oS (ev_indexAddr rfl rfl rfl hlt) rfl ?_
    refine oS (ev_load_agg rfl rfl (Rdb.ofF hcc1) (by rw [u8s_len]; exact q1)) rfl ?_
    repeat (first|refine zJ rfl rfl ?_|refine jr rfl ?_|refine jn ?_|refine zM rfl rfl ?_|(refine zC rfl rfl ?_ rfl ?_;omega)|(refine zD rfl rfl ?_ rfl ?_;omega)|(refine zP rfl ?_ rfl ?_;omega)|refine zG rfl rfl rfl rfl ?_|(refine jdq rfl rfl ?_ ?_ ?_;kernel_rfl;kernel_rfl)|refine zB rfl rfl rfl (by repeat constructor) rfl ?_|refine zH .here rfl rfl rfl rfl ?_|refine zH (.there .here) rfl rfl rfl rfl ?_|refine zH (.there (.there .here)) rfl rfl rfl rfl ?_|refine zH (.there (.there (.there .here))) rfl rfl rfl rfl ?_|refine zH (.there (.there (.there (.there .here)))) rfl rfl rfl rfl ?_)
    refine oS (ev_indexAddr rfl rfl rfl hlt2) rfl ?_
    refine oS (ev_load_agg rfl rfl (Rdb.ofF hcc2) (by rw [u8s_len]; exact q2)) rfl ?_
    refine oS (ev_arr_neq (n := 32) rfl rfl rfl rfl q1 q2 (by kernel_rfl)) rfl ?_
    by_cases hxy : x = y
    · subst hxy
      rw [show (x == x) = true from by simp]
      repeat (first|refine zJ rfl rfl ?_|refine jr rfl ?_|refine jn ?_|refine zM rfl rfl ?_|(refine zC rfl rfl ?_ rfl ?_;omega)|(refine zD rfl rfl ?_ rfl ?_;omega)|(refine zP rfl ?_ rfl ?_;omega)|refine zG rfl rfl rfl rfl ?_|(refine jdq rfl rfl ?_ ?_ ?_;kernel_rfl;kernel_rfl)|refine zB rfl rfl rfl (by repeat constructor) rfl ?_|refine zH .here rfl rfl rfl rfl ?_|refine zH (.there .here) rfl rfl rfl rfl ?_|refine zH (.there (.there .here)) rfl rfl rfl rfl ?_|refine zH (.there (.there (.there .here))) rfl rfl rfl rfl ?_|refine zH (.there (.there (.there (.there .here)))) rfl rfl rfl rfl ?_)
      refine J_again (i + 1) ⟨hlt, ?_⟩ (by omega) ⟨⟨rfl, rfl, rfl, rfl, trivial⟩, fun w s => s⟩
      rw [List.take_add_one, List.take_add_one, he, hg1, hg2]
    · rw [hno fun e => hxy (by subst e; rw [hg1] at hg2; exact Option.some.inj hg2), show (x == y) = false from by simpa using hxy]
      repeat (first|refine zJ rfl rfl ?_|refine jr rfl ?_|refine jn ?_|refine zM rfl rfl ?_|(refine zC rfl rfl ?_ rfl ?_;omega)|(refine zD rfl rfl ?_ rfl ?_;omega)|(refine zP rfl ?_ rfl ?_;omega)|refine zG rfl rfl rfl rfl ?_|(refine jdq rfl rfl ?_ ?_ ?_;kernel_rfl;kernel_rfl)|refine zB rfl rfl rfl (by repeat constructor) rfl ?_|refine zH .here rfl rfl rfl rfl ?_|refine zH (.there .here) rfl rfl rfl rfl ?_|refine zH (.there (.there .here)) rfl rfl rfl rfl ?_|refine zH (.there (.there (.there .here))) rfl rfl rfl rfl ?_|refine zH (.there (.there (.there (.there .here)))) rfl rfl rfl rfl ?_)
      exact J_retv rfl (.tmp rfl .nil) [] (fun w s => s.drop.drop.drop.drop) (PH.ler _) ⟨rfl, rfl⟩
  · obtain rfl : i = a.tags.length := by omega
    rw [List.take_length, hln, List.take_length] at he
    have hyes : sameB a b = true := by
      unfold sameB
      simp [h1, h2, h3, h4, h5, h6, h7, h8, h9, h10, he]
    rw [hyes]
    repeat (first|refine zJ rfl rfl ?_|refine jr rfl ?_|refine jn ?_|refine zM rfl rfl ?_|(refine zC rfl rfl ?_ rfl ?_;omega)|(refine zD rfl rfl ?_ rfl ?_;omega)|(refine zP rfl ?_ rfl ?_;omega)|refine zG rfl rfl rfl rfl ?_|(refine jdq rfl rfl ?_ ?_ ?_;kernel_rfl;kernel_rfl)|refine zB rfl rfl rfl (by repeat constructor) rfl ?_|refine zH .here rfl rfl rfl rfl ?_|refine zH (.there .here) rfl rfl rfl rfl ?_|refine zH (.there (.there .here)) rfl rfl rfl rfl ?_|refine zH (.there (.there (.there .here))) rfl rfl rfl rfl ?_|refine zH (.there (.there (.there (.there .here)))) rfl rfl rfl rfl ?_)
    exact J_retv rfl (.tmp rfl .nil) [] (fun w s => s.drop.drop.drop.drop) (PH.ler _) ⟨rfl, rfl⟩
end Go.Proofs.YtekdmpbkcjjllaaDoor
namespace Go.Proofs.YtekdmpbkcjjllaaDoor
open Go.RowKit
set_option maxRecDepth 100000
theorem itoa_dig {d : Nat} (h : d < 10) : Lib.itoa (d : Int) = [UInt8.ofNat (48 + d)] := by
  rw [itoa_nat, show d / 10 = 0 from by omega, show d % 10 = d from by omega]
  rfl
theorem numW_dig {d : Nat} (h : d < 10) : numW [UInt8.ofNat (48 + d)] = some (d : Int) := by
  rw [← itoa_dig h]
  exact numW_itoa ⟨by omega, by omega⟩
theorem nW0 : numW [48] = some 0 := numW_dig (d := 0) (by decide)
theorem nW1 : numW [49] = some 1 := numW_dig (d := 1) (by decide)
theorem nW2 : numW [50] = some 2 := numW_dig (d := 2) (by decide)
theorem nW3 : numW [51] = some 3 := numW_dig (d := 3) (by decide)
theorem nW4 : numW [52] = some 4 := numW_dig (d := 4) (by decide)
theorem nW5 : numW [53] = some 5 := numW_dig (d := 5) (by decide)
theorem nW00 : numW [48, 48] = none := by
  cases e : numW [48, 48] with
  | none => rfl
  | some n =>
    have h := numW_some e
    have h2 := (numW_shape e).2.val
    have h3 : n = 0 := h2
    rw [h3] at h
    have h4 : Lib.itoa 0 = [48] := itoa_dig (d := 0) (by decide)
    rw [h4] at h
    exact absurd h.2 (by decide)
def fxS : St := { zSt with kind := 3, at_ := 3 }
def fxL : W8 := [100, 101, 108, 105, 118, 101, 114, 32, 51]
theorem fx_line : lineB fxS = fxL := by
  have h4 : Lib.itoa 3 = [51] := itoa_dig (d := 3) (by decide)
  show wDeliver ++ spW (nums [3]) = fxL
  unfold nums
  rw [List.map_cons, h4]
  rfl
theorem fx_ok : okL fxS = true := by
  unfold okL
  rw [fx_line, show splW 32 fxL = [wDeliver, [51]] from rfl, parse_one (show oneK wDeliver = some 3 from rfl)]
  have e : allW numW [[51]] = some [3] := by simp only [allW, nW3, Option.bind_some, Option.map_some]
  rw [e]
  exact (sameB_iff _ _).2 rfl
def fxA : W8 := [97, 115, 107, 32, 52, 32, 49, 32, 97, 32, 53, 32, 48, 32, 51, 48, 32, 48, 32, 49]
theorem fx_ask : parseP (splW 32 fxA) = some ⟨1, 4, 0, 0, ⟨0, 0, 1, [97], 5, 0, [48]⟩, [0, 1], 0, 0, 0, [], []⟩ := by
  rw [show splW 32 fxA = [wAsk, [52], [49], [97], [53], [48], [51, 48], [48], [49]] from rfl, parse_not (show oneK wAsk = none from rfl), if_pos rfl, ask_plain, coreR5]
  have e1 : letterW [97] = some [97] := by decide
  have e2 : bytesW [51, 48] = some [48] := by decide
  simp only [allW, nW4, nW1, nW5, nW0, e1, e2, Option.bind_some, Option.map_some]
  rfl
def fxX : St := ⟨1, 4, 0, 0, ⟨0, 0, 1, [97], 5, 0, [48]⟩, [0, 1], 0, 0, 0, [], []⟩
def fxT : W8 := [116, 105, 99, 107, 32, 48, 48]
theorem fx_tick : parseP (splW 32 fxT) = none := by
  rw [show splW 32 fxT = [wTick, [48, 48]] from rfl, parse_one (show oneK wTick = some 6 from rfl)]
  simp only [allW, nW00, Option.bind_none, Option.map_none]
def fxP : W8 := [99, 108, 117, 115, 116, 101, 114, 32, 49, 32, 50, 32, 51, 10, 116, 105, 99, 107, 32, 48, 10]
theorem fx_parse : parseT fxP = some (⟨1, [3], 2⟩, [oneSt 6 0]) := by
  unfold parseT
  rw [show splW 10 fxP = [[99, 108, 117, 115, 116, 101, 114, 32, 49, 32, 50, 32, 51], [116, 105, 99, 107, 32, 48], []] from rfl, if_pos (by decide)]
  show (firstR (splW 32 [99, 108, 117, 115, 116, 101, 114, 32, 49, 32, 50, 32, 51])).bind (fun x => (parseAll [[116, 105, 99, 107, 32, 48]]).map fun l => (x, l)) = _
  have e1 : firstR (splW 32 [99, 108, 117, 115, 116, 101, 114, 32, 49, 32, 50, 32, 51]) = some ⟨1, [3], 2⟩ := by
    rw [show splW 32 [99, 108, 117, 115, 116, 101, 114, 32, 49, 32, 50, 32, 51] = [wCluster, [49], [50], [51]] from rfl]
    unfold firstR
    rw [if_pos (show [wCluster, [49], [50], [51]].headD [] = wCluster from rfl)]
    show (numW [49]).bind (fun f => (numW [50]).bind fun c => (allW numW [[51]]).map fun l => (⟨f, l, c⟩ : Su)) = _
    simp only [allW, nW1, nW2, nW3, Option.bind_some, Option.map_some]
  have e2 : parseAll [[116, 105, 99, 107, 32, 48]] = some [oneSt 6 0] := by
    unfold parseAll
    rw [show splW 32 [116, 105, 99, 107, 32, 48] = [wTick, [48]] from rfl, parse_one (show oneK wTick = some 6 from rfl)]
    simp only [allW, nW0, Option.bind_some, Option.map_some, parseAll]
  rw [e1, e2]
  rfl
set_option maxHeartbeats 32000000 in
theorem fixed_spec (F : PH) (hF : LibF F) : Spec Tryd.prog 6 [] F [] fun u _ H' => H' = [] ∧ u = .bool true := by
  refine Spec.of0 Tryd.func6 rfl fun X w0 => ?_
  have hst : StOk F fxS nl nl nl := oneSt_ok (k := 3) (n := 3) F ⟨by decide, by decide⟩ ⟨by decide, by decide⟩
  have hfew : FewSt fxS := ⟨by decide, by decide, by decide, by decide, by decide⟩
  have hl := line_spec fxS nl nl nl F hF hst hfew
  rw [fx_ok, if_pos rfl, fx_line] at hl
  repeat (first|refine zJ rfl rfl ?_|refine jr rfl ?_|refine jn ?_|refine zM rfl rfl ?_|(refine zC rfl rfl ?_ rfl ?_;omega)|(refine zD rfl rfl ?_ rfl ?_;omega)|(refine zP rfl ?_ rfl ?_;omega)|refine zG rfl rfl rfl rfl ?_|(refine jdq rfl rfl ?_ ?_ ?_;kernel_rfl;kernel_rfl)|refine zB rfl rfl rfl (by repeat constructor) rfl ?_|refine zH .here rfl rfl rfl rfl ?_|refine zH (.there .here) rfl rfl rfl rfl ?_|refine zH (.there (.there .here)) rfl rfl rfl rfl ?_|refine zH (.there (.there (.there .here))) rfl rfl rfl rfl ?_|refine zH (.there (.there (.there (.there .here)))) rfl rfl rfl rfl ?_)
  refine oC (Hc := []) (Hr := X) hl Tryd.call8 rfl rfl (fun _ s => s) ?_
  rintro _ F1 _ hF1 ⟨rfl, rfl⟩
  have hF1' := hF.mono hF1
  repeat (first|refine zJ rfl rfl ?_|refine jr rfl ?_|refine jn ?_|refine zM rfl rfl ?_|(refine zC rfl rfl ?_ rfl ?_;omega)|(refine zD rfl rfl ?_ rfl ?_;omega)|(refine zP rfl ?_ rfl ?_;omega)|refine zG rfl rfl rfl rfl ?_|(refine jdq rfl rfl ?_ ?_ ?_;kernel_rfl;kernel_rfl)|refine zB rfl rfl rfl (by repeat constructor) rfl ?_|refine zH .here rfl rfl rfl rfl ?_|refine zH (.there .here) rfl rfl rfl rfl ?_|refine zH (.there (.there .here)) rfl rfl rfl rfl ?_|refine zH (.there (.there (.there .here))) rfl rfl rfl rfl ?_|refine zH (.there (.there (.there (.there .here)))) rfl rfl rfl rfl ?_)
  refine oC (Hc := []) (Hr := X) (parseLine_spec fxA (by decide) F1 hF1') Tryd.call10 rfl rfl (fun _ s => s) ?_
  rintro _ F2 _ hF2 ⟨rfl, x, vo, vb, vt, ok, rfl, hs2, _, hm⟩
  rw [show parseP (splW 32 fxA) = some fxX from fx_ask] at hm
  obtain ⟨rfl, rfl⟩ := hm
  obtain ⟨oa, oc, rfl, _, _⟩ := hs2.orgs.at1
  repeat (first|refine zJ rfl rfl ?_|refine jr rfl ?_|refine jn ?_|refine zM rfl rfl ?_|(refine zC rfl rfl ?_ rfl ?_;omega)|(refine zD rfl rfl ?_ rfl ?_;omega)|(refine zP rfl ?_ rfl ?_;omega)|refine zG rfl rfl rfl rfl ?_|(refine jdq rfl rfl ?_ ?_ ?_;kernel_rfl;kernel_rfl)|refine zB rfl rfl rfl (by repeat constructor) rfl ?_|refine zH .here rfl rfl rfl rfl ?_|refine zH (.there .here) rfl rfl rfl rfl ?_|refine zH (.there (.there .here)) rfl rfl rfl rfl ?_|refine zH (.there (.there (.there .here))) rfl rfl rfl rfl ?_|refine zH (.there (.there (.there (.there .here)))) rfl rfl rfl rfl ?_)
  refine oE (ev_alloc (cs := zStC) rfl) rfl ?_
  rintro _ _ _ _ ⟨rfl, b3, rfl, rfl⟩
  refine oN (ev_store (vs := stC fxX (.slice oa 2 oc) vb vt) rfl rfl .agg rfl rfl (lay_all (zs := zStC) rfl) hs2.ones .here) rfl ?_
  rintro _ _ _ _ ⟨rfl, _, rfl⟩
  repeat (first|refine zJ rfl rfl ?_|refine jr rfl ?_|refine jn ?_|refine zM rfl rfl ?_|(refine zC rfl rfl ?_ rfl ?_;omega)|(refine zD rfl rfl ?_ rfl ?_;omega)|(refine zP rfl ?_ rfl ?_;omega)|refine zG rfl rfl rfl rfl ?_|(refine jdq rfl rfl ?_ ?_ ?_;kernel_rfl;kernel_rfl)|refine zB rfl rfl rfl (by repeat constructor) rfl ?_|refine zH .here rfl rfl rfl rfl ?_|refine zH (.there .here) rfl rfl rfl rfl ?_|refine zH (.there (.there .here)) rfl rfl rfl rfl ?_|refine zH (.there (.there (.there .here))) rfl rfl rfl rfl ?_|refine zH (.there (.there (.there (.there .here)))) rfl rfl rfl rfl ?_)
  refine oC (Hc := []) (Hr := blk b3 31 (stC fxX (.slice oa 2 oc) vb vt) :: X) (parse_spec fxP (by decide) F2 (hF1'.mono hF2)) Tryd.call15 rfl rfl (fun _ s => s) ?_
  rintro _ F3 _ hF3 ⟨rfl, su, vl, l, vs, e, rfl, hsu, hrow, hcase⟩
  rcases hcase with ⟨h9, _⟩ | ⟨_, h9, _⟩ | ⟨_, _, h9⟩
  · exact absurd h9 (by decide)
  · exact absurd h9 (by decide)
  rw [fx_parse] at h9
  rcases h9 with ⟨h9, _⟩ | ⟨h9, rfl⟩
  · cases h9
  obtain ⟨rfl, rfl⟩ : (⟨1, [3], 2⟩ : Su) = su ∧ [oneSt 6 0] = l := by
    have := Option.some.inj h9
    exact ⟨congrArg Prod.fst this, congrArg Prod.snd this⟩
  obtain ⟨la, lc, rfl, _, _⟩ := hsu.liars.at1
  obtain ⟨css, ⟨_, sa, sc, rfl, _, _⟩, _⟩ := id hrow
  repeat (first|refine zJ rfl rfl ?_|refine jr rfl ?_|refine jn ?_|refine zM rfl rfl ?_|(refine zC rfl rfl ?_ rfl ?_;omega)|(refine zD rfl rfl ?_ rfl ?_;omega)|(refine zP rfl ?_ rfl ?_;omega)|refine zG rfl rfl rfl rfl ?_|(refine jdq rfl rfl ?_ ?_ ?_;kernel_rfl;kernel_rfl)|refine zB rfl rfl rfl (by repeat constructor) rfl ?_|refine zH .here rfl rfl rfl rfl ?_|refine zH (.there .here) rfl rfl rfl rfl ?_|refine zH (.there (.there .here)) rfl rfl rfl rfl ?_|refine zH (.there (.there (.there .here))) rfl rfl rfl rfl ?_|refine zH (.there (.there (.there (.there .here)))) rfl rfl rfl rfl ?_)
  refine oE (ev_alloc (cs := suC zSu nl) rfl) rfl ?_
  rintro _ _ _ _ ⟨rfl, b5, rfl, rfl⟩
  refine oN (ev_store (vs := suC ⟨1, [3], 2⟩ (.slice la 1 lc)) rfl rfl .agg rfl rfl (lay_all (zs := suC zSu nl) rfl) (by unfold suC; (repeat (first | exact ones_nil | refine ones_cons rfl ?_))) .here) rfl ?_
  rintro _ _ _ _ ⟨rfl, _, rfl⟩
  repeat (first|refine zJ rfl rfl ?_|refine jr rfl ?_|refine jn ?_|refine zM rfl rfl ?_|(refine zC rfl rfl ?_ rfl ?_;omega)|(refine zD rfl rfl ?_ rfl ?_;omega)|(refine zP rfl ?_ rfl ?_;omega)|refine zG rfl rfl rfl rfl ?_|(refine jdq rfl rfl ?_ ?_ ?_;kernel_rfl;kernel_rfl)|refine zB rfl rfl rfl (by repeat constructor) rfl ?_|refine zH .here rfl rfl rfl rfl ?_|refine zH (.there .here) rfl rfl rfl rfl ?_|refine zH (.there (.there .here)) rfl rfl rfl rfl ?_|refine zH (.there (.there (.there .here))) rfl rfl rfl rfl ?_|refine zH (.there (.there (.there (.there .here)))) rfl rfl rfl rfl ?_)
  refine oC (Hc := []) (Hr := blk b5 41 (suC ⟨1, [3], 2⟩ (.slice la 1 lc)) :: blk b3 31 (stC fxX (.slice oa 2 oc) vb vt) :: X) (parseLine_spec fxT (by decide) F3 ((hF1'.mono hF2).mono hF3)) Tryd.call10 rfl rfl (fun _ s => s) ?_
  rintro _ F4 _ hF4 ⟨rfl, x, wo, wb, wt, ok, rfl, hs4, _, hm⟩
  rw [fx_tick] at hm
  obtain ⟨rfl, rfl⟩ := hm
  repeat (first|refine zJ rfl rfl ?_|refine jr rfl ?_|refine jn ?_|refine zM rfl rfl ?_|(refine zC rfl rfl ?_ rfl ?_;omega)|(refine zD rfl rfl ?_ rfl ?_;omega)|(refine zP rfl ?_ rfl ?_;omega)|refine zG rfl rfl rfl rfl ?_|(refine jdq rfl rfl ?_ ?_ ?_;kernel_rfl;kernel_rfl)|refine zB rfl rfl rfl (by repeat constructor) rfl ?_|refine zH .here rfl rfl rfl rfl ?_|refine zH (.there .here) rfl rfl rfl rfl ?_|refine zH (.there (.there .here)) rfl rfl rfl rfl ?_|refine zH (.there (.there (.there .here))) rfl rfl rfl rfl ?_|refine zH (.there (.there (.there (.there .here)))) rfl rfl rfl rfl ?_)
  refine oE (ev_alloc (cs := zStC) rfl) rfl ?_
  rintro _ _ _ _ ⟨rfl, b8, rfl, rfl⟩
  refine oN (ev_store (vs := stC zSt wo wb wt) rfl rfl .agg rfl rfl (lay_all (zs := zStC) rfl) hs4.ones .here) rfl ?_
  rintro _ _ _ _ ⟨rfl, _, rfl⟩
  repeat (first|refine zJ rfl rfl ?_|refine jr rfl ?_|refine jn ?_|refine zM rfl rfl ?_|(refine zC rfl rfl ?_ rfl ?_;omega)|(refine zD rfl rfl ?_ rfl ?_;omega)|(refine zP rfl ?_ rfl ?_;omega)|refine zG rfl rfl rfl rfl ?_|(refine jdq rfl rfl ?_ ?_ ?_;kernel_rfl;kernel_rfl)|refine zB rfl rfl rfl (by repeat constructor) rfl ?_|refine zH .here rfl rfl rfl rfl ?_|refine zH (.there .here) rfl rfl rfl rfl ?_|refine zH (.there (.there .here)) rfl rfl rfl rfl ?_|refine zH (.there (.there (.there .here))) rfl rfl rfl rfl ?_|refine zH (.there (.there (.there (.there .here)))) rfl rfl rfl rfl ?_)
  refine oS (ev_seql (bs := fxL) (cs := fxL) (r := true) rfl rfl (by decide)) rfl ?_
  repeat (first|refine zJ rfl rfl ?_|refine jr rfl ?_|refine jn ?_|refine zM rfl rfl ?_|(refine zC rfl rfl ?_ rfl ?_;omega)|(refine zD rfl rfl ?_ rfl ?_;omega)|(refine zP rfl ?_ rfl ?_;omega)|refine zG rfl rfl rfl rfl ?_|(refine jdq rfl rfl ?_ ?_ ?_;kernel_rfl;kernel_rfl)|refine zB rfl rfl rfl (by repeat constructor) rfl ?_|refine zH .here rfl rfl rfl rfl ?_|refine zH (.there .here) rfl rfl rfl rfl ?_|refine zH (.there (.there .here)) rfl rfl rfl rfl ?_|refine zH (.there (.there (.there .here))) rfl rfl rfl rfl ?_|refine zH (.there (.there (.there (.there .here)))) rfl rfl rfl rfl ?_)
  refine oS (ev_seql (bs := [48]) (cs := [48]) (r := true) rfl rfl (by decide)) rfl ?_
  repeat (first|refine zJ rfl rfl ?_|refine jr rfl ?_|refine jn ?_|refine zM rfl rfl ?_|(refine zC rfl rfl ?_ rfl ?_;omega)|(refine zD rfl rfl ?_ rfl ?_;omega)|(refine zP rfl ?_ rfl ?_;omega)|refine zG rfl rfl rfl rfl ?_|(refine jdq rfl rfl ?_ ?_ ?_;kernel_rfl;kernel_rfl)|refine zB rfl rfl rfl (by repeat constructor) rfl ?_|refine zH .here rfl rfl rfl rfl ?_|refine zH (.there .here) rfl rfl rfl rfl ?_|refine zH (.there (.there .here)) rfl rfl rfl rfl ?_|refine zH (.there (.there (.there .here))) rfl rfl rfl rfl ?_|refine zH (.there (.there (.there (.there .here)))) rfl rfl rfl rfl ?_)
  exact J_retv (vs := [.bool true]) rfl (.tmp rfl .nil) [] (fun w s => s.drop.drop.drop) (hF1.trans (hF2.trans (hF3.trans hF4))) ⟨rfl, rfl⟩
end Go.Proofs.YtekdmpbkcjjllaaDoor
namespace Go.Proofs.YtekdmpbkcjjllaaDoor
open Go.RowKit
open Go.ChangeShapes Go.WideShapes Go.ChangeAt
set_option maxRecDepth 100000
theorem own_knob : ownKnob Tryd.prog.godebug = none := by kernel_rfl
theorem laid_out : laidOutB Tryd.prog = true := by kernel_rfl
def laidL : List (String × DataW Unit) := [("math/bits.deBruijn32tab", Rows.laid_math_bits_deBruijn32tab), ("math/bits.deBruijn64tab", Rows.laid_math_bits_deBruijn64tab), ("internal/strconv.uint64pow10", Rows.laid_internal_strconv_uint64pow10), ("unicode/utf8.acceptRanges", Rows.laid_unicode_utf8_acceptRanges), ("strconv.ErrRange", Rows.laid_strconv_ErrRange), ("strconv.ErrSyntax", Rows.laid_strconv_ErrSyntax), ("unicode/utf8.first", Rows.laid_unicode_utf8_first)]
theorem laid_met (os : Os) (args : Array Value) : laidMetH Tryd.prog laidL ((World.laidAll Tryd.prog os laidL).forCall (fun _ _ => 0) ⟨#[], args, []⟩).memory := by
  rw [MakeChecks.laidMetH_plain _ _ _ (by kernel_rfl)]
  exact laidMet_laidAll _ (by kernel_rfl) (by kernel_rfl)
theorem iface_of_trod {H : Type} {enc : TypeId × Value → H} {P : Program} {w : World} {base : Nat} {sp : Nat → Bool} {fuel : Nat} {t : TypeId} {ms : Array (String × TypeId)} {cs : List Value} {nm : String} {d : DataW H} {p : List MemPlace} (ht : P.underlying t = some (.interface ms))
    (h : DataW.trod enc P w base sp false fuel t cs = some (.iface nm d, p)) : ∃ u v, cs = [.iface u v] := by
  cases fuel with
  | zero => cases h
  | succ fuel =>
    cases cs with
    | nil => simp [DataW.trod, ht] at h
    | cons v r =>
      cases r with
      | nil => cases v <;> first | exact ⟨_, _, rfl⟩ | simp [DataW.trod, ht] at h
      | cons v2 r2 => cases v <;> simp [DataW.trod, ht] at h
theorem gTab : Tryd.prog.globalNamed "internal/strconv.uint64pow10" = some 1 := by kernel_rfl
theorem tTab : (Tryd.prog.globals[1]?).map (·.type) = some 131 := by kernel_rfl
theorem gSyn : Tryd.prog.globalNamed "strconv.ErrSyntax" = some 4 := by kernel_rfl
theorem tSyn : (Tryd.prog.globals[4]?).map (·.type) = some 93 := by kernel_rfl
theorem gRng : Tryd.prog.globalNamed "strconv.ErrRange" = some 5 := by kernel_rfl
theorem tRng : (Tryd.prog.globals[5]?).map (·.type) = some 93 := by kernel_rfl
theorem errF_of {W : World} {n : String} {g : Nat} {cs : Array Value} {u : TypeId} {v : Value} (hg : Tryd.prog.globalNamed n = some g) (hv : W.var? Tryd.prog n = some cs) (hc : cs.toList = [.iface u v]) : ErrF g (ph W) := by
  refine ⟨u, v, ?_⟩
  rw [cellF_ph]
  unfold World.var? at hv
  rw [hg] at hv
  simp only [Option.bind_some] at hv
  unfold World.cell?
  dsimp only
  cases ho : W.heap[g]? with
  | none => rw [ho] at hv; cases hv
  | some o =>
    rw [ho] at hv
    cases o with
    | cells c t fr =>
      have e : c = cs := by simpa using hv
      subst e
      have : c[0]? = some (.iface u v) := by rw [← Array.getElem?_toList, hc]; rfl
      simpa using this
    | _ => cases hv
theorem libF_of_laid {W : World} (h : laidMetH Tryd.prog laidL W) : LibF (ph W) := by
  rw [MakeChecks.laidMetH_plain _ _ _ (by kernel_rfl)] at h
  obtain ⟨ps, ⟨g0, t0, cs0, f0, p0, q0, _, _, _, _, ⟨g1, t1, cs1, f1, p1, q1, _, _, _, _, ⟨g2, t2, cs2, f2, p2, q2, hg2, ht2, hv2, hd2, ⟨g3, t3, cs3, f3, p3, q3, _, _, _, _, ⟨g4, t4, cs4, f4, p4, q4, hg4, ht4, hv4, hd4, ⟨g5, t5, cs5, f5, p5, q5, hg5, ht5, hv5, hd5, _, _⟩, _⟩, _⟩, _⟩, _⟩, _⟩, _, _⟩ := h
  obtain rfl := Option.some.inj (gTab.symm.trans hg2)
  obtain rfl := Option.some.inj (tTab.symm.trans ht2)
  obtain rfl := Option.some.inj (gRng.symm.trans hg4)
  obtain rfl := Option.some.inj (tRng.symm.trans ht4)
  obtain rfl := Option.some.inj (gSyn.symm.trans hg5)
  obtain rfl := Option.some.inj (tSyn.symm.trans ht5)
  have hcs := Lib.cells_of_tab (k := .u64) (zs := Lib.pow10Tab) Tryd.underlying131 Tryd.underlying121 (by kernel_rfl) (by kernel_rfl) hd2
  obtain ⟨u4, v4, e4⟩ := iface_of_trod Tryd.underlying93 hd4
  obtain ⟨u5, v5, e5⟩ := iface_of_trod Tryd.underlying93 hd5
  refine ⟨?_, errF_of gSyn hv5 e5, errF_of gRng hv4 e4⟩
  intro w hw
  unfold Lib.TabIs
  rw [← hcs]
  have e : cs2.toList.toArray = cs2 := by simp
  rw [e]
  unfold World.var? at hv2 ⊢
  rw [hg2] at hv2
  rw [gTab]
  simp only [Option.bind_some] at hv2 ⊢
  cases ho : W.heap[1]? with
  | none => rw [ho] at hv2; cases hv2
  | some o =>
    rw [ho] at hv2
    have := hw _ o ho
    rw [show w.heap[1]? = some o from this]
    exact hv2
theorem parseP_len {ws : List W8} {x : St} (h : parseP ws = some x) : x.orgs.length ≤ ws.length ∧ x.tags.length ≤ ws.length := by
  cases ws with
  | nil => cases h
  | cons name R =>
    cases hk : oneK name with
    | some k =>
      rw [parse_one hk] at h
      obtain ⟨n, _, rfl⟩ := Option.map_eq_some_iff.1 h
      have e1 : (oneSt k n).orgs = [] := by unfold oneSt; split <;> rfl
      have e2 : (oneSt k n).tags = [] := by unfold oneSt; split <;> rfl
      rw [e1, e2]
      exact ⟨Nat.zero_le _, Nat.zero_le _⟩
    | none =>
      rw [parse_not hk] at h
      split at h
      · unfold askR at h
        simp only [Option.bind_eq_some_iff, Option.map_eq_some_iff] at h
        obtain ⟨_, _, _, _, os, h2, rfl⟩ := h
        have := allW_len h2
        rw [List.length_drop] at this
        exact ⟨by show os.length ≤ _; simp; omega, Nat.zero_le _⟩
      split at h
      · unfold reqR at h
        simp only [Option.bind_eq_some_iff, Option.map_eq_some_iff] at h
        obtain ⟨_, _, _, _, _, _, _, _, _, _, _, _, os, h2, rfl⟩ := h
        have := allW_len h2
        rw [List.length_drop] at this
        exact ⟨by show os.length ≤ _; simp; omega, Nat.zero_le _⟩
      split at h
      · unfold lieR at h
        simp only [Option.bind_eq_some_iff] at h
        obtain ⟨_, _, _, _, _, _, _, _, h2⟩ := h
        split at h2
        · cases h2
        split at h2
        · cases h2; exact ⟨Nat.zero_le _, Nat.zero_le _⟩
        · cases h2
      split at h
      · unfold forgeR at h
        simp only [Option.bind_eq_some_iff, Option.map_eq_some_iff] at h
        obtain ⟨_, _, _, _, _, _, _, _, ts, h2, rfl⟩ := h
        have := allW_len h2
        rw [List.length_drop] at this
        exact ⟨Nat.zero_le _, by show ts.length ≤ _; simp; omega⟩
      · cases h
end Go.Proofs.YtekdmpbkcjjllaaDoor
