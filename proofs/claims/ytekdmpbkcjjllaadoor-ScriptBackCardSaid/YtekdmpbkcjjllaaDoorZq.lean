/-
  Plain: which steps have a line, and that the line tells the step.
-/
import Derived.Test.YtekdmpbkcjjllaaDoorPy
namespace Go.Proofs.YtekdmpbkcjjllaaDoor
open Go.RowKit
set_option maxRecDepth 100000
def withB (x : St) : Bool := decide (x.kind = 1) || (decide (x.kind = 7) && decide (x.mk1 = 1))
/-- What a step's line tells of it. -/
def toldP (x : St) : St :=
  if x.kind = 1 then ⟨1, x.who, 0, 0, { x.core with client := 0, stamp := 0 }, x.orgs, 0, 0, 0, [], []⟩
  else if x.kind = 2 ∨ x.kind = 6 then { zSt with kind := x.kind, who := x.who }
  else if x.kind = 3 ∨ x.kind = 4 ∨ x.kind = 5 then { zSt with kind := x.kind, at_ := x.at_ }
  else if x.kind = 8 then ⟨8, 0, x.to, 0, zCo, [], 0, x.mk1, x.mf1, x.body, x.tags⟩
  else if x.mk1 = 1 then ⟨x.kind, x.who, x.to, 0, x.core, x.orgs, x.blank, 1, 0, [], []⟩
  else ⟨x.kind, x.who, x.to, 0, zCo, [], 0, x.mk1, 0, x.body, []⟩
def docOk (x : St) : Bool := decide (1 ≤ x.kind ∧ x.kind ≤ 8) && (sameB x (toldP x) && (!withB x || letterB x.core.letter))
theorem allW_nums : ∀ {l : List Int}, (∀ n ∈ l, InI n) → allW numW (nums l) = some l
  | [], _ => rfl
  | n :: l, h => by
    show allW numW (Lib.itoa n :: nums l) = _
    rw [allW_cons, numW_itoa (h n (by simp)), allW_nums fun m hm => h m (by simp [hm])]
    rfl
theorem unhex_hexD : ∀ (bs : W8), unhex (hexD bs) = some bs
  | [] => rfl
  | b :: r => by
    have hb : b.toNat < 256 := b.toNat_lt
    show unhex (hx (b.toNat / 16) :: hx (b.toNat % 16) :: hexD r) = _
    rw [unhex, hx_ne (c := hx (b.toNat / 16)) (i := b.toNat / 16) (by omega) rfl, hx_ne (c := hx (b.toNat % 16)) (i := b.toNat % 16) (by omega) rfl, unhex_hexD r]
    have : UInt8.ofNat (16 * (b.toNat / 16) + b.toNat % 16) = b := by
      rw [show 16 * (b.toNat / 16) + b.toNat % 16 = b.toNat from by omega]
      exact UInt8.ofNat_toNat
    simp [this]
theorem bytesW_hexB (bs : W8) : bytesW (hexB bs) = some bs := by
  unfold hexB
  by_cases h : bs = []
  · subst h; rfl
  · have hl := hexD_len bs
    have hp := List.length_pos_iff.2 h
    rw [if_neg h, bytesW_of (fun e => by rw [e] at hl; simp at hl; omega) (fun e => by rw [e] at hl; simp at hl; omega)]
    exact unhex_hexD bs
theorem allW_tags : ∀ {l : List W8}, (∀ t ∈ l, t.length = 32) → allW tagW (l.map hexB) = some l
  | [], _ => rfl
  | t :: l, h => by
    rw [List.map_cons, allW_cons]
    have e : tagW (hexB t) = some t := by unfold tagW; rw [bytesW_hexB, Option.bind_some, if_pos (h t (by simp))]
    rw [e, allW_tags fun m hm => h m (by simp [hm])]
    rfl
theorem hx_char {n : Nat} (h : n < 16) : 48 ≤ (hx n).toNat := by
  have : ∀ n, n < 16 → 48 ≤ (hx n).toNat := by decide
  exact this n h
theorem hexB_no {c : UInt8} (hc : c.toNat < 45) (bs : W8) : c ∉ hexB bs := by
  unfold hexB
  split
  · intro h; rw [List.mem_singleton.1 h] at hc; exact absurd hc (by decide)
  · intro h
    unfold hexD at h
    obtain ⟨b, _, h⟩ := List.mem_flatMap.1 h
    have hb : b.toNat < 256 := b.toNat_lt
    have h1 := hx_char (n := b.toNat / 16) (by omega)
    have h2 := hx_char (n := b.toNat % 16) (by omega)
    simp only [List.mem_cons, List.not_mem_nil, or_false] at h
    rcases h with rfl | rfl <;> omega
theorem letter_no {s : W8} (h : letterB s = true) : 32 ∉ s ∧ 10 ∉ s ∧ s.length ≤ 64 := by
  unfold letterB at h
  simp only [Bool.and_eq_true, Bool.not_eq_true', decide_eq_true_eq] at h
  exact ⟨by simpa using h.1.2, by simpa using h.2, h.1.1.2⟩
theorem core_back {c : Co} (h : CoIn c) (hl : letterB c.letter = true) : coreR (coW c) = some { c with client := 0, stamp := 0 } := by
  unfold coW
  rw [coreR5, numW_itoa h.op, numW_itoa h.a, numW_itoa h.b, bytesW_hexB]
  unfold letterW
  rw [if_pos hl]
  rfl
theorem coW_no {c : Co} (h : CoIn c) {b : UInt8} (hb : b.toNat < 45) (hl : b ∉ c.letter) : ∀ w ∈ coW c, b ∉ w := by
  unfold coW
  intro w hw
  simp only [List.mem_cons, List.not_mem_nil, or_false] at hw
  rcases hw with rfl | rfl | rfl | rfl | rfl
  · exact itoa_no h.op hb
  · exact hl
  · exact itoa_no h.a hb
  · exact itoa_no h.b hb
  · exact hexB_no hb _
theorem back_one {k n : Int} {nm : W8} (hk : nameK k = some nm) (hn : InI n) : parseP (splW 32 (nm ++ spW (nums [n]))) = some (oneSt k n) := by
  obtain ⟨_, _, h1, h2⟩ := nameK_ne hk
  rw [splW_words _ _ h2 (nums_no (l := [n]) (by simpa using hn) (by decide)), parse_one h1, allW_nums (l := [n]) (by simpa using hn)]
  rfl
theorem line_back {F : PH} {x : St} {vo vb vt : Value} (hx : StOk F x vo vb vt) (hk : 1 ≤ x.kind ∧ x.kind ≤ 8) (hs : x = toldP x) (hw : withB x = true → letterB x.core.letter = true) : parseP (splW 32 (lineB x)) = some x := by
  obtain ⟨kind, who, to, at_, core, orgs, blank, mk1, mf1, body, tags⟩ := x
  dsimp only at hk hw
  have i1 : InI who := hx.who
  have i2 : InI to := hx.to
  have i3 : InI at_ := hx.at_
  have i4 : CoIn core := hx.core
  have i5 : ∀ n ∈ orgs, InI n := hx.orgs.2
  have i6 : InI mk1 := hx.mk1
  have i7 : InI mf1 := hx.mf1
  have i8 : ∀ t ∈ tags, t.length = 32 := hx.tags.2
  have b0 : 0 ≤ blank := hx.b0
  have b1 : blank ≤ 4294967295 := hx.b1
  have ib : InI blank := ⟨by omega, by omega⟩
  clear hx
  obtain rfl | rfl | rfl | rfl | rfl | rfl | rfl | rfl : kind = 1 ∨ kind = 2 ∨ kind = 3 ∨ kind = 4 ∨ kind = 5 ∨ kind = 6 ∨ kind = 7 ∨ kind = 8 := by omega
  · have hl := hw rfl
    have hno := letter_no hl
    rw [hs]
    show parseP (splW 32 (wAsk ++ spW (nums [who] ++ coW { core with client := 0, stamp := 0 } ++ nums orgs))) = some ⟨1, who, 0, 0, { core with client := 0, stamp := 0 }, orgs, 0, 0, 0, [], []⟩
    have e : coW { core with client := 0, stamp := 0 } = coW core := rfl
    rw [e, splW_words _ _ (by decide) (by
      intro w hw
      simp only [List.mem_append] at hw
      rcases hw with (hw | hw) | hw
      · exact nums_no (l := [who]) (by simpa using i1) (by decide) w hw
      · exact coW_no i4 (by decide) hno.1 w hw
      · exact nums_no i5 (by decide) w hw), parse_not (show oneK wAsk = none from rfl), if_pos rfl]
    show askR (Lib.itoa who :: Lib.itoa core.op :: core.letter :: Lib.itoa core.a :: Lib.itoa core.b :: hexB core.text :: nums orgs) = _
    rw [ask_plain]
    have e1 : allW numW [Lib.itoa who] = some [who] := allW_nums (l := [who]) (by simpa using i1)
    have e2 : coreR [Lib.itoa core.op, core.letter, Lib.itoa core.a, Lib.itoa core.b, hexB core.text] = some { core with client := 0, stamp := 0 } := core_back i4 hl
    rw [e1, e2, allW_nums i5]
    rfl
  · rw [hs]; exact back_one (k := 2) (nm := wAgain) rfl i1
  · rw [hs]; exact back_one (k := 3) (nm := wDeliver) rfl i3
  · rw [hs]; exact back_one (k := 4) (nm := wTwice) rfl i3
  · rw [hs]; exact back_one (k := 5) (nm := wLose) rfl i3
  · rw [hs]; exact back_one (k := 6) (nm := wTick) rfl i1
  · by_cases h1 : mk1 = 1
    · subst h1
      have hl := hw rfl
      have hno := letter_no hl
      rw [hs]
      show parseP (splW 32 (wRequest ++ spW (nums [who, to, blank, core.client] ++ nums [core.stamp] ++ coW core ++ nums orgs))) = some ⟨7, who, to, 0, core, orgs, blank, 1, 0, [], []⟩
      have j1 : ∀ n ∈ [who, to, blank, core.client], InI n := by
        simp only [List.mem_cons, List.not_mem_nil, or_false, forall_eq_or_imp, forall_eq]
        exact ⟨i1, i2, ib, i4.client⟩
      have j2 : ∀ n ∈ [core.stamp], InI n := by simpa using i4.stamp
      have j3 : ∀ n ∈ [who, to, blank, core.client, core.stamp], InI n := by
        simp only [List.mem_cons, List.not_mem_nil, or_false, forall_eq_or_imp, forall_eq]
        exact ⟨i1, i2, ib, i4.client, i4.stamp⟩
      rw [splW_words _ _ (by decide) (by
        intro w hw
        simp only [List.mem_append] at hw
        rcases hw with ((hw | hw) | hw) | hw
        · exact nums_no j1 (by decide) w hw
        · exact nums_no j2 (by decide) w hw
        · exact coW_no i4 (by decide) hno.1 w hw
        · exact nums_no i5 (by decide) w hw), parse_not (show oneK wRequest = none from rfl), if_neg (by decide), if_pos rfl]
      show reqR (Lib.itoa who :: Lib.itoa to :: Lib.itoa blank :: Lib.itoa core.client :: Lib.itoa core.stamp :: Lib.itoa core.op :: core.letter :: Lib.itoa core.a :: Lib.itoa core.b :: hexB core.text :: nums orgs) = _
      rw [req_plain]
      have e1 : allW numW [Lib.itoa who, Lib.itoa to, Lib.itoa blank, Lib.itoa core.client, Lib.itoa core.stamp] = some [who, to, blank, core.client, core.stamp] := allW_nums j3
      have e2 : coreR [Lib.itoa core.op, core.letter, Lib.itoa core.a, Lib.itoa core.b, hexB core.text] = some { core with client := 0, stamp := 0 } := core_back i4 hl
      rw [e1, e2, allW_nums i5]
      show (if 0 ≤ blank ∧ blank < 4294967296 then some _ else none) = _
      rw [if_pos ⟨b0, by omega⟩]
      rfl
    · have ht : toldP ⟨7, who, to, at_, core, orgs, blank, mk1, mf1, body, tags⟩ = ⟨7, who, to, 0, zCo, [], 0, mk1, 0, body, []⟩ := by
        unfold toldP
        simp [h1]
      rw [hs, ht]
      have hln : lineB ⟨7, who, to, 0, zCo, [], 0, mk1, 0, body, []⟩ = wLie ++ spW (nums [who, to, mk1] ++ [hexB body]) := by
        have : lineW ⟨7, who, to, 0, zCo, [], 0, mk1, 0, body, []⟩ = some (wLie, nums [who, to, mk1] ++ [hexB body]) := by
          show (if mk1 = 1 then _ else _) = _
          rw [if_neg h1]
        unfold lineB
        rw [this]
      have j1 : ∀ n ∈ [who, to, mk1], InI n := by
        simp only [List.mem_cons, List.not_mem_nil, or_false, forall_eq_or_imp, forall_eq]
        exact ⟨i1, i2, i6⟩
      rw [hln, splW_words _ _ (by decide) (by
        intro w hw
        rcases List.mem_append.1 hw with hw | hw
        · exact nums_no j1 (by decide) w hw
        · rw [List.mem_singleton.1 hw]; exact hexB_no (by decide) _), parse_not (show oneK wLie = none from rfl), if_neg (by decide), if_neg (by decide), if_pos rfl]
      show lieR [Lib.itoa who, Lib.itoa to, Lib.itoa mk1, hexB body] = _
      rw [lie_plain]
      have e1 : allW numW [Lib.itoa who, Lib.itoa to, Lib.itoa mk1] = some [who, to, mk1] := allW_nums j1
      rw [e1, bytesW_hexB]
      show (if mk1 = 1 then none else some _) = _
      rw [if_neg h1]
      rfl
  · rw [hs]
    show parseP (splW 32 (wForge ++ spW (nums [to, mk1, mf1] ++ [hexB body] ++ tags.map hexB))) = some ⟨8, 0, to, 0, zCo, [], 0, mk1, mf1, body, tags⟩
    have j1 : ∀ n ∈ [to, mk1, mf1], InI n := by
      simp only [List.mem_cons, List.not_mem_nil, or_false, forall_eq_or_imp, forall_eq]
      exact ⟨i2, i6, i7⟩
    rw [splW_words _ _ (by decide) (by
      intro w hw
      simp only [List.mem_append] at hw
      rcases hw with (hw | hw) | hw
      · exact nums_no j1 (by decide) w hw
      · rw [List.mem_singleton.1 hw]; exact hexB_no (by decide) _
      · obtain ⟨t, _, rfl⟩ := List.mem_map.1 hw
        exact hexB_no (by decide) _), parse_not (show oneK wForge = none from rfl), if_neg (by decide), if_neg (by decide), if_neg (by decide), if_pos rfl]
    show forgeR (Lib.itoa to :: Lib.itoa mk1 :: Lib.itoa mf1 :: hexB body :: tags.map hexB) = _
    rw [forge_plain]
    have e1 : allW numW [Lib.itoa to, Lib.itoa mk1, Lib.itoa mf1] = some [to, mk1, mf1] := allW_nums j1
    rw [e1, bytesW_hexB, allW_tags i8]
    rfl
theorem oneSt_kind (k n : Int) : (oneSt k n).kind = k := by unfold oneSt; split <;> rfl
theorem oneK_in {w : W8} {k : Int} (h : oneK w = some k) : k = 2 ∨ k = 6 ∨ k = 3 ∨ k = 4 ∨ k = 5 := by
  unfold oneK at h
  split at h
  · cases h; simp
  split at h
  · cases h; simp
  split at h
  · cases h; simp
  split at h
  · cases h; simp
  split at h
  · cases h; simp
  · cases h
theorem core_letter {ws : List W8} {c : Co} (h : coreR ws = some c) : letterB c.letter = true ∧ c.client = 0 ∧ c.stamp = 0 := by
  unfold coreR at h
  simp only [Option.bind_eq_some_iff, Option.map_eq_some_iff] at h
  obtain ⟨_, _, l, hl, _, _, _, _, _, _, rfl⟩ := h
  refine ⟨?_, rfl, rfl⟩
  unfold tk1 at hl
  obtain ⟨w, _, hl⟩ := Option.bind_eq_some_iff.1 hl
  unfold letterW at hl
  split at hl
  · rename_i e; cases hl; exact e
  · cases hl
theorem parse_form {ws : List W8} {y : St} (h : parseP ws = some y) : (1 ≤ y.kind ∧ y.kind ≤ 8) ∧ y = toldP y ∧ (withB y = true → letterB y.core.letter = true) := by
  cases ws with
  | nil => cases h
  | cons name R =>
    cases hk : oneK name with
    | some k =>
      rw [parse_one hk] at h
      obtain ⟨n, _, rfl⟩ := Option.map_eq_some_iff.1 h
      rcases oneK_in hk with rfl | rfl | rfl | rfl | rfl <;> exact ⟨⟨by rw [oneSt_kind]; decide, by rw [oneSt_kind]; decide⟩, rfl, fun e => by cases e⟩
    | none =>
      rw [parse_not hk] at h
      split at h
      · unfold askR at h
        simp only [Option.bind_eq_some_iff, Option.map_eq_some_iff] at h
        obtain ⟨_, _, c, h1, os, h2, rfl⟩ := h
        obtain ⟨q1, q2, q3⟩ := core_letter h1
        refine ⟨⟨by dsimp only; decide, by dsimp only; decide⟩, ?_, fun _ => q1⟩
        show _ = St.mk 1 _ 0 0 { c with client := 0, stamp := 0 } os 0 0 0 [] []
        obtain ⟨c1, c2, c3, c4, c5, c6, c7⟩ := c
        dsimp only at q2 q3
        subst q2 q3
        rfl
      split at h
      · unfold reqR at h
        simp only [Option.bind_eq_some_iff, Option.map_eq_some_iff] at h
        obtain ⟨_, _, _, _, _, _, _, _, _, _, c, h1, os, h2, rfl⟩ := h
        exact ⟨⟨by dsimp only; decide, by dsimp only; decide⟩, rfl, fun _ => (core_letter h1).1⟩
      split at h
      · unfold lieR at h
        simp only [Option.bind_eq_some_iff] at h
        obtain ⟨_, _, _, _, k, _, _, _, h2⟩ := h
        split at h2
        · cases h2
        rename_i hk1
        split at h2
        · cases h2
          refine ⟨⟨by dsimp only; decide, by dsimp only; decide⟩, ?_, fun e => ?_⟩
          · unfold toldP
            simp [hk1]
          · unfold withB at e
            simp [hk1] at e
        · cases h2
      split at h
      · unfold forgeR at h
        simp only [Option.bind_eq_some_iff, Option.map_eq_some_iff] at h
        obtain ⟨_, _, _, _, _, _, _, _, ts, h2, rfl⟩ := h
        exact ⟨⟨by dsimp only; decide, by dsimp only; decide⟩, rfl, fun e => by cases e⟩
      · cases h
theorem okL_doc {F : PH} {x : St} {vo vb vt : Value} (hx : StOk F x vo vb vt) : okL x = docOk x := by
  unfold docOk
  cases ho : okL x with
  | true =>
    unfold okL at ho
    cases hp : parseP (splW 32 (lineB x)) with
    | none => rw [hp] at ho; cases ho
    | some y =>
      rw [hp] at ho
      obtain rfl := (sameB_iff x y).1 ho
      obtain ⟨h1, h2, h3⟩ := parse_form hp
      rw [decide_eq_true h1, (sameB_iff x (toldP x)).2 h2]
      cases hw : withB x with
      | false => rfl
      | true => rw [h3 hw]; rfl
  | false =>
    cases hd : (decide (1 ≤ x.kind ∧ x.kind ≤ 8) && (sameB x (toldP x) && (!withB x || letterB x.core.letter))) with
    | false => rfl
    | true =>
      simp only [Bool.and_eq_true, decide_eq_true_eq, Bool.or_eq_true, Bool.not_eq_true'] at hd
      obtain ⟨h1, h2, h3⟩ := hd
      have hb := line_back hx h1 ((sameB_iff x (toldP x)).1 h2) (fun e => by rcases h3 with h | h; rw [e] at h; cases h; exact h)
      unfold okL at ho
      rw [hb] at ho
      have h9 : sameB x x = false := ho
      rw [(sameB_iff x x).2 rfl] at h9
      cases h9
end Go.Proofs.YtekdmpbkcjjllaaDoor
