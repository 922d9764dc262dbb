/-
  The document's reader of a line, walked.
-/
import Derived.Test.YtekdmpbkcjjllaaGreatDoorPv
namespace Go.Proofs.YtekdmpbkcjjllaaGreatDoor
open Go.RowKit
set_option maxRecDepth 100000
theorem zLet : zSt.core.letter.length ≤ 2000000 := by show ([] : W8).length ≤ 2000000; simp
theorem WRow.from {F : PH} {a : Option Addr} {c lo : Nat} {ws : List W8} (h : WRow F (.slice a ws.length c) ws) (h1 : lo ≤ ws.length) : WRow F (cutV a 1 c lo ws.length c) (ws.drop lo) := by
  have := h.cut h1 (Nat.le_refl _)
  rwa [List.take_of_length_le (by rw [List.length_drop]; omega)] at this
def kNames : List W8 := [[], wAsk, wAgain, wDeliver, wTwice, wLose, wTick]
theorem kNames_one {i : Nat} {w : W8} (h : kNames[i]? = some w) (h2 : 2 ≤ i) : oneK w = some (i : Int) ∧ i ≤ 6 := by
  have hlt := (List.getElem?_eq_some_iff.1 h).1
  have h7 : i < 7 := hlt
  obtain h | h | h | h | h : i = 2 ∨ i = 3 ∨ i = 4 ∨ i = 5 ∨ i = 6 := by omega
  all_goals (subst h; cases h; exact ⟨by decide, by decide⟩)
theorem kNames_no {name : W8} (h : ∀ j w, kNames[j]? = some w → 2 ≤ j → w ≠ name) : oneK name = none := by
  have h2 := h 2 wAgain rfl (by decide)
  have h3 := h 3 wDeliver rfl (by decide)
  have h4 := h 4 wTwice rfl (by decide)
  have h5 := h 5 wLose rfl (by decide)
  have h6 := h 6 wTick rfl (by decide)
  unfold oneK
  rw [if_neg h2.symm, if_neg h6.symm, if_neg h3.symm, if_neg h4.symm, if_neg h5.symm]
theorem one_plain (R : List W8) : ((tk1 numW R).bind fun n => if R.tail = [] then some n else none) = match allW numW R with | some [n] => some n | _ => none := by
  cases R with
  | nil => rfl
  | cons w r =>
    rw [allW_cons]
    show (numW w).bind _ = _
    cases numW w with
    | none => rfl
    | some n =>
      cases r with
      | nil => rfl
      | cons w2 r2 =>
        rw [allW_cons]
        show (if (w2 :: r2 : List W8) = [] then some n else none) = _
        rw [if_neg (by simp)]
        cases numW w2 with
        | none => rfl
        | some m => cases allW numW r2 <;> rfl
theorem parse_one {name : W8} {R : List W8} {k : Int} (h : oneK name = some k) : parseP (name :: R) = (match allW numW R with | some [n] => some n | _ => none).map (oneSt k) := by
  rw [← one_plain]
  unfold parseP
  rw [show (name :: R).headD [] = name from rfl, h]
  show ((tk1 numW R).bind fun n => if R.tail = [] then some (oneSt k n) else none) = _
  cases tk1 numW R with
  | none => rfl
  | some n =>
    show (if R.tail = [] then some (oneSt k n) else none) = Option.map (oneSt k) (if R.tail = [] then some n else none)
    split <;> rfl
theorem parse_not {name : W8} {R : List W8} (h : oneK name = none) : parseP (name :: R) = if name = wAsk then askR R else if name = wRequest then reqR R else if name = wLie then lieR R else if name = wForge then forgeR R else none := by
  unfold parseP
  rw [show (name :: R).headD [] = name from rfl, h]
  rfl
theorem tk1_short {α : Type} (f : W8 → Option α) {ws : List W8} {k : Nat} (h : ws.length ≤ k) : tk1 f (ws.drop k) = none := by
  rw [List.drop_eq_nil_of_le h]; rfl
theorem core_short {ws : List W8} (h : ws.length ≤ 4) : coreR ws = none := by
  unfold coreR
  rw [tk1_short bytesW h]
  simp
theorem ask_short {R : List W8} (h : R.length ≤ 5) : askR R = none := by
  unfold askR
  rw [core_short (by rw [List.length_drop]; omega)]
  simp
theorem req_short {R : List W8} (h : R.length ≤ 9) : reqR R = none := by
  unfold reqR
  rw [core_short (by rw [List.length_drop]; omega)]
  simp
theorem lie_short {R : List W8} (h : R.length ≠ 4) : lieR R = none := by
  unfold lieR
  by_cases h1 : R.length ≤ 3
  · rw [tk1_short bytesW h1]; simp
  · have hd : ¬ R.length ≤ 4 := by omega
    simp [hd]
theorem forge_short {R : List W8} (h : R.length ≤ 3) : forgeR R = none := by
  unfold forgeR
  rw [tk1_short bytesW h]
  simp
theorem uncons {R : List W8} {k : Nat} (h : k + 1 ≤ R.length) : ∃ a r, R = a :: r ∧ k ≤ r.length := by
  cases R with
  | nil => simp at h
  | cons a r => exact ⟨a, r, rfl, by simpa using h⟩
theorem uncons4 {R : List W8} (h : 4 ≤ R.length) : ∃ a1 a2 a3 a4 r, R = a1 :: a2 :: a3 :: a4 :: r := by
  obtain ⟨a1, R1, rfl, h1⟩ := uncons (k := 3) h
  obtain ⟨a2, R2, rfl, h2⟩ := uncons h1
  obtain ⟨a3, R3, rfl, h3⟩ := uncons h2
  obtain ⟨a4, R4, rfl, h4⟩ := uncons h3
  exact ⟨a1, a2, a3, a4, R4, rfl⟩
theorem uncons6 {R : List W8} (h : 6 ≤ R.length) : ∃ a1 a2 a3 a4 a5 a6 r, R = a1 :: a2 :: a3 :: a4 :: a5 :: a6 :: r := by
  obtain ⟨a1, R1, rfl, h1⟩ := uncons (k := 5) h
  obtain ⟨a2, R2, rfl, h2⟩ := uncons h1
  obtain ⟨a3, R3, rfl, h3⟩ := uncons h2
  obtain ⟨a4, R4, rfl, h4⟩ := uncons h3
  obtain ⟨a5, R5, rfl, h5⟩ := uncons h4
  obtain ⟨a6, R6, rfl, h6⟩ := uncons h5
  exact ⟨a1, a2, a3, a4, a5, a6, R6, rfl⟩
theorem uncons10 {R : List W8} (h : 10 ≤ R.length) : ∃ a1 a2 a3 a4 a5 a6 a7 a8 a9 a10 r, R = a1 :: a2 :: a3 :: a4 :: a5 :: a6 :: a7 :: a8 :: a9 :: a10 :: r := by
  obtain ⟨a1, R1, rfl, h1⟩ := uncons (k := 9) h
  obtain ⟨a2, R2, rfl, h2⟩ := uncons h1
  obtain ⟨a3, R3, rfl, h3⟩ := uncons h2
  obtain ⟨a4, R4, rfl, h4⟩ := uncons h3
  obtain ⟨a5, R5, rfl, h5⟩ := uncons h4
  obtain ⟨a6, R6, rfl, h6⟩ := uncons h5
  obtain ⟨a7, R7, rfl, h7⟩ := uncons h6
  obtain ⟨a8, R8, rfl, h8⟩ := uncons h7
  obtain ⟨a9, R9, rfl, h9⟩ := uncons h8
  obtain ⟨a10, R10, rfl, h10⟩ := uncons h9
  exact ⟨a1, a2, a3, a4, a5, a6, a7, a8, a9, a10, R10, rfl⟩
theorem allW_len {α : Type} {f : W8 → Option α} : ∀ {ws : List W8} {l : List α}, allW f ws = some l → l.length = ws.length
  | [], l, h => by cases h; rfl
  | w :: r, l, h => by
    rw [allW_cons] at h
    cases e : f w with
    | none => rw [e] at h; cases h
    | some x =>
      rw [e, Option.bind_some] at h
      cases e2 : allW f r with
      | none => rw [e2] at h; cases h
      | some t => rw [e2] at h; cases h; rw [List.length_cons, List.length_cons, allW_len e2]
theorem list3 {α : Type} {l : List α} (h : l.length = 3) : ∃ a b c, l = [a, b, c] := by
  match l, h with
  | [a, b, c], _ => exact ⟨a, b, c, rfl⟩
theorem list5 {α : Type} {l : List α} (h : l.length = 5) : ∃ a b c d e, l = [a, b, c, d, e] := by
  match l, h with
  | [a, b, c, d, e], _ => exact ⟨a, b, c, d, e, rfl⟩
theorem ask_plain (w1 w2 w3 w4 w5 w6 : W8) (rest : List W8) : askR (w1 :: w2 :: w3 :: w4 :: w5 :: w6 :: rest) = (allW numW [w1]).bind fun l => (coreR [w2, w3, w4, w5, w6]).bind fun c => (allW numW rest).map fun os => ⟨1, l.getD 0 0, 0, 0, c, os, 0, 0, 0, [], []⟩ := by
  show (numW w1).bind _ = _
  rw [allW_cons]
  cases numW w1 <;> rfl
theorem lie_plain (w1 w2 w3 w4 : W8) : lieR [w1, w2, w3, w4] = (allW numW [w1, w2, w3]).bind fun l => (bytesW w4).bind fun body => if l.getD 2 0 = 1 then none else some ⟨7, l.getD 0 0, l.getD 1 0, 0, zCo, [], 0, l.getD 2 0, 0, body, []⟩ := by
  show (numW w1).bind _ = _
  rw [allW_cons, allW_cons, allW_cons]
  cases numW w1 with
  | none => rfl
  | some a =>
    show (numW w2).bind _ = _
    cases numW w2 with
    | none => rfl
    | some b =>
      show (numW w3).bind _ = _
      cases numW w3 <;> rfl
theorem req_plain (w1 w2 w3 w4 w5 c1 c2 c3 c4 c5 : W8) (rest : List W8) : reqR (w1 :: w2 :: w3 :: w4 :: w5 :: c1 :: c2 :: c3 :: c4 :: c5 :: rest) = (allW numW [w1, w2, w3, w4, w5]).bind fun l => (coreR [c1, c2, c3, c4, c5]).bind fun c => (allW numW rest).bind fun os => if 0 ≤ l.getD 2 0 ∧ l.getD 2 0 < 4294967296 then some ⟨7, l.getD 0 0, l.getD 1 0, 0, { c with client := l.getD 3 0, stamp := l.getD 4 0 }, os, l.getD 2 0, 1, 0, [], []⟩ else none := by
  show (numW w1).bind _ = _
  rw [allW_cons, allW_cons, allW_cons, allW_cons, allW_cons]
  cases numW w1 with
  | none => rfl
  | some x1 =>
    show (numW w2).bind _ = _
    cases numW w2 with
    | none => rfl
    | some x2 =>
      show ((numW w3).bind _).bind _ = _
      cases numW w3 with
      | none => rfl
      | some x3 =>
        show (if 0 ≤ x3 ∧ x3 < 4294967296 then some x3 else none).bind _ = _
        cases h4 : numW w4 with
        | none => split <;> first | rfl | (show (numW w4).bind _ = _; rw [h4]; rfl)
        | some x4 =>
          cases h5 : numW w5 with
          | none => split <;> first | rfl | (show (numW w4).bind _ = _; rw [h4]; show (numW w5).bind _ = _; rw [h5]; rfl)
          | some x5 =>
            show _ = (coreR [c1, c2, c3, c4, c5]).bind fun c => (allW numW rest).bind fun os => if 0 ≤ x3 ∧ x3 < 4294967296 then some (⟨7, x1, x2, 0, { c with client := x4, stamp := x5 }, os, x3, 1, 0, [], []⟩ : St) else none
            by_cases hb : 0 ≤ x3 ∧ x3 < 4294967296
            · rw [if_pos hb]
              show (numW w4).bind _ = _
              rw [h4]
              show (numW w5).bind _ = _
              rw [h5]
              show (coreR [c1, c2, c3, c4, c5]).bind _ = _
              cases coreR [c1, c2, c3, c4, c5] with
              | none => rfl
              | some c =>
                show (allW numW rest).map _ = (allW numW rest).bind _
                cases allW numW rest with
                | none => rfl
                | some os => simp [hb]
            · rw [if_neg hb]
              simp [hb]
theorem forge_plain (w1 w2 w3 w4 : W8) (rest : List W8) : forgeR (w1 :: w2 :: w3 :: w4 :: rest) = (allW numW [w1, w2, w3]).bind fun l => (bytesW w4).bind fun body => (allW tagW rest).map fun ts => ⟨8, 0, l.getD 0 0, 0, zCo, [], 0, l.getD 1 0, l.getD 2 0, body, ts⟩ := by
  show (numW w1).bind _ = _
  rw [allW_cons, allW_cons, allW_cons]
  cases numW w1 with
  | none => rfl
  | some a =>
    show (numW w2).bind _ = _
    cases numW w2 with
    | none => rfl
    | some b =>
      show (numW w3).bind _ = _
      cases numW w3 <;> rfl
def z32 : W8 := List.replicate 32 0
theorem lay_tag {t : W8} (h : t.length = 32) {j : Nat} {x : UInt8} (hx : t[j]? = some x) : Lay (0 + j * 1) [.int .u8 (x.toNat : Int)] (u8s (t.take j ++ z32.drop j)) (u8s (t.take (j + 1) ++ z32.drop (j + 1))) := by
  have hj : j < 32 := by have := (List.getElem?_eq_some_iff.1 hx).1; omega
  have e1 : z32.drop j = 0 :: z32.drop (j + 1) := by
    rw [List.drop_eq_getElem_cons (show j < z32.length from hj)]
    exact congrArg (· :: z32.drop (j + 1)) (List.getElem_replicate _)
  rw [List.take_add_one, hx, e1, Option.toList_some, List.append_assoc]
  have h2 := lay_pre (u8s (t.take j)) (i := 0) (.put .nil : Lay 0 [.int .u8 (x.toNat : Int)] (.int .u8 0 :: u8s (z32.drop (j + 1))) (.int .u8 (x.toNat : Int) :: u8s (z32.drop (j + 1))))
  rw [u8s_len, List.length_take, Nat.min_eq_left (by omega), Nat.add_zero] at h2
  rw [Nat.zero_add, Nat.mul_one]
  simpa [u8s] using h2
theorem NumRow.at1 {F : PH} {v : Value} {l : List Int} (h : NumRow F v l) : ∃ a c, v = .slice a l.length c ∧ l.length ≤ c ∧ ∀ (j : Nat) (n : Int), l[j]? = some n → ∃ b off, a = some ⟨b, off, none⟩ ∧ Cells F b (off + j * 1) [.int .i64 n] := by
  obtain ⟨_, a, c, e, h1, h2⟩ := slice1 h.1
  exact ⟨a, c, e, h1, h2⟩
set_option maxHeartbeats 64000000 in
theorem dparse_spec (t : W8) (ht : t.length ≤ 1900000) (F : PH) : Spec Tryz.prog 17 [.string (strOf t)] F [] fun u F' H' => H' = [] ∧ ParsedQ (parseP (splW 32 t)) u F' := by
  refine Spec.of1 Tryz.func17 rfl rfl fun X w0 => ?_
  refine zQ ?_
  refine oE (ev_alloc (cs := zStC) rfl) rfl ?_
  rintro _ _ _ _ ⟨rfl, b2, rfl, rfl⟩
  refine zQ ?_
  refine oC (Hc := []) (Hr := blk b2 40 zStC :: X) (dsplit_spec t 32 F ht) Tryz.call15 rfl rfl (fun _ s => s) ?_
  rintro v F1 _ hF1 ⟨rfl, hv⟩
  have hne := splW_ne 32 t
  have hwl := splW_len_le 32 t
  generalize splW 32 t = ws at *
  have hwlen := hv.2
  obtain ⟨a, c, rfl, hc, hat⟩ := hv.form
  cases ws with
  | nil => exact absurd rfl hne
  | cons name R =>
    clear hne
    have hlR : (name :: R).length = R.length + 1 := List.length_cons
    have hvR : WRow F1 (cutV a 1 c 1 (name :: R).length c) R := hv.from (lo := 1) (by omega)
    obtain ⟨ab, ao, rfl, hc0⟩ := hat 0 name rfl
    have hnl := hwlen name (by simp)
    refine zQ ?_
    refine oE (ev_buildSlice (E := 9) (zs := [.string (strOf [])]) (r := strC [[], [], [], [], [], [], []]) (t := strC kNames) rfl rfl rfl rfl rfl rfl (.cons .string rfl (by repeat constructor) (.cons .string rfl (by repeat constructor) (.cons .string rfl (by repeat constructor) (.cons .string rfl (by repeat constructor) (.cons .string rfl (by repeat constructor) (.cons .string rfl (by repeat constructor) .nil))))))) rfl ?_
    rintro _ _ _ _ ⟨rfl, bt, rfl, rfl⟩
    refine oPersist fun hh hA hd => ?_
    have hkn : WRow (F1.un hh) (.slice (some ⟨bt, 0, none⟩) 7 7) kNames := WRow.of_blk (ws := kNames) hA hd (by decide)
    obtain ⟨_, _, e, _, hkat⟩ := hkn.form
    cases e
    have hF2 := PH.le_l F1 hh
    generalize F1.un hh = F2 at *
    refine zQ ?_
    refine J_loop (ι := Nat) (fun i => i ≤ 7 ∧ ∀ j, j < i → ∀ w, kNames[j]? = some w → 2 ≤ j → w ≠ name) (fun i => 7 - i) (fun i => [(2, .pointer (some ⟨b2, 0, none⟩)), (4, .slice (some ⟨ab, ao, none⟩) (name :: R).length c), (39, .slice (some ⟨bt, 0, none⟩) 7 7), (40, .int .i64 7), (41, .int .i64 i)]) (fun _ => F2) (fun _ => blk b2 40 zStC :: X) 0 ⟨by decide, fun j hj => absurd hj (Nat.not_lt_zero _)⟩ ⟨⟨rfl, rfl, rfl, rfl, rfl, trivial⟩, fun w s => s⟩ ?_
    rintro i ⟨hi, hno⟩
    have hle2 := hF1.trans hF2
    by_cases hlt : i < 7
    · obtain ⟨tn, htn⟩ : ∃ tn, kNames[i]? = some tn := ⟨_, List.getElem?_eq_getElem (show i < kNames.length from hlt)⟩
      obtain ⟨_, _, e, htc⟩ := hkat i tn htn
      cases e
      have hone := kNames_one htn
      have hstep : (tn ≠ name ∨ i < 2) → i + 1 ≤ 7 ∧ ∀ j, j < i + 1 → ∀ w, kNames[j]? = some w → 2 ≤ j → w ≠ name := fun h => ⟨hlt, fun j hj w hw hj2 => by
        rcases Nat.lt_succ_iff_lt_or_eq.1 hj with h1 | rfl
        · exact hno j h1 w hw hj2
        · rcases h with h | h
          · rw [htn] at hw; cases hw; exact h
          · omega⟩
      refine zQ ?_
      refine oS (ev_indexAddr rfl rfl rfl hlt) rfl ?_
      refine oS (ev_load rfl rfl (Rdb.ofF htc)) rfl ?_
      by_cases h2 : i < 2
      · refine zQ ?_
        exact J_again (i + 1) (hstep (.inr h2)) (by omega) ⟨⟨rfl, rfl, rfl, rfl, rfl, trivial⟩, fun w s => s⟩
      refine zQ ?_
      refine oS (ev_indexAddr (i := 0) rfl rfl rfl (by omega)) rfl ?_
      refine oS (ev_load rfl rfl (Rdb.ofF (hc0.mono hF2))) rfl ?_
      refine zQ ?_
      by_cases hnm : name = tn
      · refine oS (ev_sneq (bs := name) (cs := tn) (r := false) rfl rfl (by simp [hnm])) rfl ?_
        obtain ⟨hk, hi6⟩ := hone (by omega)
        rw [← hnm] at hk
        have hp := parse_one (R := R) hk
        refine zQ ?_
        refine oS (ev_slice_lo (lo := 1) rfl rfl rfl (by omega)) rfl ?_
        refine oC (Hc := []) (Hr := blk b2 40 zStC :: X) (dints_spec _ R F2 (hvR.mono hF2) (by omega)) Tryz.call16 rfl rfl (fun _ s => s) ?_
        rintro _ F3 _ hF3 ⟨rfl, vn, rfl, hrow⟩
        obtain ⟨na, nc, rfl, hnc, hnat⟩ := hrow.at1
        have hle3 := hle2.trans hF3
        cases hall : allW numW R with
        | none =>
          rw [hall] at hp
          dsimp only [Option.isSome, Option.getD]
          refine zQ ?_
          refine oN (ev_store (vs := zStC) rfl rfl .agg rfl rfl (lay_all (zs := zStC) rfl) (by unfold zStC stC; (repeat (first | exact ones_nil | refine ones_cons rfl ?_))) .here) rfl ?_
          rintro _ _ _ _ ⟨rfl, _, rfl⟩
          refine zQ ?_
          exact J_retv (vs := [.agg zStC.toArray, .bool false]) rfl (.agg rfl rfl (Rdb.ofB (n := 0) .here rfl) rfl (.tmp rfl .nil)) [] (fun w s => s.drop) hle3 ⟨rfl, zSt, nl, nl, nl, false, rfl, zSt_ok _, zLet, by rw [hp]; exact ⟨rfl, rfl⟩⟩
        | some l =>
          rw [hall] at hp hrow hnc hnat
          dsimp only [Option.isSome, Option.getD] at hrow hnc hnat ⊢
          by_cases hl1 : l.length = 1
          · obtain ⟨n, rfl⟩ := List.length_eq_one_iff.1 hl1
            obtain ⟨nb, no, rfl, hncc⟩ := hnat 0 n rfl
            have hn := hrow.2 n (by simp)
            have hik : InI (i : Int) := ⟨by omega, by omega⟩
            have hp' : parseP (name :: R) = some (oneSt i n) := hp
            have hn1 : ([n] : List Int).length = 1 := rfl
            by_cases hw2 : i = 2
            · subst hw2
              refine zQ ?_
              refine oS (ev_indexAddr (i := 0) rfl rfl rfl (by show 0 < 1; decide)) rfl ?_
              refine oS (ev_load rfl rfl (Rdb.ofF hncc)) rfl ?_
              refine zQ ?_
              refine oN (ev_store (vs := stC { zSt with kind := ((2 : Nat) : Int), who := n } nl nl nl) rfl rfl .agg rfl rfl (lay_all (zs := zStC) rfl) (by unfold stC; (repeat (first | exact ones_nil | refine ones_cons rfl ?_))) .here) rfl ?_
              rintro _ _ _ _ ⟨rfl, _, rfl⟩
              refine zQ ?_
              have hst := oneSt_ok F3 hik hn
              have hlt9 := oneSt_letter (((2 : Nat) : Int)) n
              rw [show oneSt (((2 : Nat) : Int)) n = { zSt with kind := ((2 : Nat) : Int), who := n } from by unfold oneSt whoK; simp; try omega] at hst hlt9 hp'
              exact J_retv (vs := [.agg (stC { zSt with kind := ((2 : Nat) : Int), who := n } nl nl nl).toArray, .bool true]) rfl (.agg rfl rfl (Rdb.ofB (n := 0) .here rfl) rfl (.tmp rfl .nil)) [] (fun w s => s.drop) hle3 ⟨rfl, { zSt with kind := ((2 : Nat) : Int), who := n }, nl, nl, nl, true, rfl, hst, hlt9, by rw [hp']; exact ⟨rfl, rfl⟩⟩
            by_cases hw6 : i = 6
            · subst hw6
              refine zQ ?_
              refine oS (ev_indexAddr (i := 0) rfl rfl rfl (by show 0 < 1; decide)) rfl ?_
              refine oS (ev_load rfl rfl (Rdb.ofF hncc)) rfl ?_
              refine zQ ?_
              refine oN (ev_store (vs := stC { zSt with kind := ((6 : Nat) : Int), who := n } nl nl nl) rfl rfl .agg rfl rfl (lay_all (zs := zStC) rfl) (by unfold stC; (repeat (first | exact ones_nil | refine ones_cons rfl ?_))) .here) rfl ?_
              rintro _ _ _ _ ⟨rfl, _, rfl⟩
              refine zQ ?_
              have hst := oneSt_ok F3 hik hn
              have hlt9 := oneSt_letter (((6 : Nat) : Int)) n
              rw [show oneSt (((6 : Nat) : Int)) n = { zSt with kind := ((6 : Nat) : Int), who := n } from by unfold oneSt whoK; simp; try omega] at hst hlt9 hp'
              exact J_retv (vs := [.agg (stC { zSt with kind := ((6 : Nat) : Int), who := n } nl nl nl).toArray, .bool true]) rfl (.agg rfl rfl (Rdb.ofB (n := 0) .here rfl) rfl (.tmp rfl .nil)) [] (fun w s => s.drop) hle3 ⟨rfl, { zSt with kind := ((6 : Nat) : Int), who := n }, nl, nl, nl, true, rfl, hst, hlt9, by rw [hp']; exact ⟨rfl, rfl⟩⟩
            refine zQ ?_
            refine oS (ev_indexAddr (i := 0) rfl rfl rfl (by show 0 < 1; decide)) rfl ?_
            refine oS (ev_load rfl rfl (Rdb.ofF hncc)) rfl ?_
            refine zQ ?_
            refine oN (ev_store (vs := stC { zSt with kind := ((i : Nat) : Int), at_ := n } nl nl nl) rfl rfl .agg rfl rfl (lay_all (zs := zStC) rfl) (by unfold stC; (repeat (first | exact ones_nil | refine ones_cons rfl ?_))) .here) rfl ?_
            rintro _ _ _ _ ⟨rfl, _, rfl⟩
            refine zQ ?_
            have hst := oneSt_ok F3 hik hn
            have hlt9 := oneSt_letter (((i : Nat) : Int)) n
            rw [show oneSt (((i : Nat) : Int)) n = { zSt with kind := ((i : Nat) : Int), at_ := n } from by unfold oneSt whoK; simp; try omega] at hst hlt9 hp'
            exact J_retv (vs := [.agg (stC { zSt with kind := ((i : Nat) : Int), at_ := n } nl nl nl).toArray, .bool true]) rfl (.agg rfl rfl (Rdb.ofB (n := 0) .here rfl) rfl (.tmp rfl .nil)) [] (fun w s => s.drop) hle3 ⟨rfl, { zSt with kind := ((i : Nat) : Int), at_ := n }, nl, nl, nl, true, rfl, hst, hlt9, by rw [hp']; exact ⟨rfl, rfl⟩⟩
          · have hp' : parseP (name :: R) = none := by
              rw [hp]
              match l, hl1 with
              | [], _ => rfl
              | [_], h => exact absurd rfl h
              | _ :: _ :: _, _ => rfl
            refine zQ ?_
            refine oN (ev_store (vs := zStC) rfl rfl .agg rfl rfl (lay_all (zs := zStC) rfl) (by unfold zStC stC; (repeat (first | exact ones_nil | refine ones_cons rfl ?_))) .here) rfl ?_
            rintro _ _ _ _ ⟨rfl, _, rfl⟩
            refine zQ ?_
            exact J_retv (vs := [.agg zStC.toArray, .bool false]) rfl (.agg rfl rfl (Rdb.ofB (n := 0) .here rfl) rfl (.tmp rfl .nil)) [] (fun w s => s.drop) hle3 ⟨rfl, zSt, nl, nl, nl, false, rfl, zSt_ok _, zLet, by rw [hp']; exact ⟨rfl, rfl⟩⟩
      · refine oS (ev_sneq (bs := name) (cs := tn) (r := true) rfl rfl (by simp [hnm])) rfl ?_
        refine zQ ?_
        exact J_again (i + 1) (hstep (.inl (Ne.symm hnm))) (by omega) ⟨⟨rfl, rfl, rfl, rfl, rfl, trivial⟩, fun w s => s⟩
    · obtain rfl : i = 7 := by omega
      have hnone := kNames_no (name := name) fun j w hw hj2 => hno j (List.getElem?_eq_some_iff.1 hw).1 w hw hj2
      have hp := parse_not (R := R) hnone
      clear hno hkat hA
      have hc0' := hc0.mono hF2
      have hv2 := hv.mono hF2
      by_cases h0 : name = wAsk
      · rw [if_pos h0] at hp
        by_cases hl : 7 ≤ R.length + 1
        · obtain ⟨w1, w2, w3, w4, w5, w6, rest, rfl⟩ := uncons6 (R := R) (by omega)
          have hLL : (name :: w1 :: w2 :: w3 :: w4 :: w5 :: w6 :: rest).length = rest.length + 7 := rfl
          rw [ask_plain] at hp
          refine zQ ?_
          refine oS (ev_indexAddr (i := 0) rfl rfl rfl (by omega)) rfl ?_
          refine oS (ev_load rfl rfl (Rdb.ofF hc0')) rfl ?_
          refine zQ ?_
          refine oS (ev_seql (bs := name) (cs := wAsk) (r := true) rfl rfl (by rw [h0]; decide)) rfl ?_
          refine zQ ?_
          refine oS (ev_slice_lohi (lo := 1) (hi := 2) rfl rfl rfl rfl (by decide) (by omega)) rfl ?_
          refine oC (Hc := []) (Hr := blk b2 40 zStC :: X) (dints_spec _ [w1] F2 (hv2.cut (lo := 1) (hi := 2) (by decide) (by omega)) (by simp)) Tryz.call16 rfl rfl (fun _ s => s) ?_
          rintro _ G1 _ hG1 ⟨rfl, vn, rfl, hrow⟩
          refine zQ ?_
          refine oS (ev_slice_lohi (lo := 2) (hi := 7) rfl rfl rfl rfl (by decide) (by omega)) rfl ?_
          refine oC (Hc := []) (Hr := blk b2 40 zStC :: X) (dcore_spec _ w2 w3 w4 w5 w6 G1 ((hv2.mono hG1).cut (lo := 2) (hi := 7) (by decide) (by omega))) Tryz.call44 rfl rfl (fun _ s => s) ?_
          rintro _ G2 _ hG2 ⟨rfl, co, rfl, hco, hcx⟩
          refine zQ ?_
          refine oE (ev_alloc (cs := coC zCo) rfl) rfl ?_
          rintro _ _ _ _ ⟨rfl, b11, rfl, rfl⟩
          refine oN (ev_store (vs := coC co) rfl rfl .agg rfl rfl (lay_all (zs := coC zCo) rfl) (by unfold coC; (repeat (first | exact ones_nil | refine ones_cons rfl ?_))) .here) rfl ?_
          rintro _ _ _ _ ⟨rfl, _, rfl⟩
          refine zQ ?_
          refine oS (ev_slice_lo (lo := 7) rfl rfl rfl (by omega)) rfl ?_
          refine oC (Hc := []) (Hr := blk b11 33 (coC co) :: blk b2 40 zStC :: X) (dints_spec _ rest G2 (((hv2.mono hG1).mono hG2).from (lo := 7) (by omega)) (by omega)) Tryz.call16 rfl rfl (fun _ s => s) ?_
          rintro _ G3 _ hG3 ⟨rfl, vo, rfl, hos⟩
          have hle9 := hle2.trans (hG1.trans (hG2.trans hG3))
          cases e1 : allW numW [w1] with
          | none =>
            rw [e1] at hp
            cases e2 : (coreR [w2, w3, w4, w5, w6]).isSome <;> cases e3 : (allW numW rest).isSome <;> dsimp only [Option.isSome]
            all_goals
              refine zQ ?_
              refine oN (ev_store (vs := zStC) rfl rfl .agg rfl rfl (lay_all (zs := zStC) rfl) (by unfold zStC stC; (repeat (first | exact ones_nil | refine ones_cons rfl ?_))) (.there .here)) rfl ?_
              rintro _ _ _ _ ⟨rfl, _, rfl⟩
              refine zQ ?_
              exact J_retv (vs := [.agg zStC.toArray, .bool false]) rfl (.agg rfl rfl (Rdb.ofB (n := 0) (.there .here) rfl) rfl (.tmp rfl .nil)) [] (fun w s => s.drop.drop) hle9 ⟨rfl, zSt, nl, nl, nl, false, rfl, zSt_ok _, zLet, by rw [hp]; exact ⟨rfl, rfl⟩⟩
          | some l1 =>
            rw [e1] at hp hrow
            cases e2 : coreR [w2, w3, w4, w5, w6] with
            | none =>
              rw [e2] at hp
              cases e3 : (allW numW rest).isSome <;> dsimp only [Option.isSome]
              all_goals
                refine zQ ?_
                refine oN (ev_store (vs := zStC) rfl rfl .agg rfl rfl (lay_all (zs := zStC) rfl) (by unfold zStC stC; (repeat (first | exact ones_nil | refine ones_cons rfl ?_))) (.there .here)) rfl ?_
                rintro _ _ _ _ ⟨rfl, _, rfl⟩
                refine zQ ?_
                exact J_retv (vs := [.agg zStC.toArray, .bool false]) rfl (.agg rfl rfl (Rdb.ofB (n := 0) (.there .here) rfl) rfl (.tmp rfl .nil)) [] (fun w s => s.drop.drop) hle9 ⟨rfl, zSt, nl, nl, nl, false, rfl, zSt_ok _, zLet, by rw [hp]; exact ⟨rfl, rfl⟩⟩
            | some co2 =>
              obtain rfl := hcx co2 e2
              rw [e2] at hp
              cases e3 : allW numW rest with
              | none =>
                rw [e3] at hp
                dsimp only [Option.isSome]
                refine zQ ?_
                refine oN (ev_store (vs := zStC) rfl rfl .agg rfl rfl (lay_all (zs := zStC) rfl) (by unfold zStC stC; (repeat (first | exact ones_nil | refine ones_cons rfl ?_))) (.there .here)) rfl ?_
                rintro _ _ _ _ ⟨rfl, _, rfl⟩
                refine zQ ?_
                exact J_retv (vs := [.agg zStC.toArray, .bool false]) rfl (.agg rfl rfl (Rdb.ofB (n := 0) (.there .here) rfl) rfl (.tmp rfl .nil)) [] (fun w s => s.drop.drop) hle9 ⟨rfl, zSt, nl, nl, nl, false, rfl, zSt_ok _, zLet, by rw [hp]; exact ⟨rfl, rfl⟩⟩
              | some os =>
                rw [e3] at hp hos
                dsimp only [Option.isSome, Option.getD] at hrow hos ⊢
                obtain ⟨n, rfl⟩ := List.length_eq_one_iff.1 (allW_len e1)
                obtain ⟨na, nc, rfl, _, hnat⟩ := hrow.at1
                obtain ⟨oa, oc, rfl, _, _⟩ := hos.at1
                obtain ⟨nb, no, rfl, hncc⟩ := hnat 0 n rfl
                have hncc' := (hncc.mono hG2).mono hG3
                have hn := hrow.2 n (by simp)
                have hn1 : ([n] : List Int).length = 1 := rfl
                have hp' : parseP (name :: w1 :: w2 :: w3 :: w4 :: w5 :: w6 :: rest) = some ⟨1, n, 0, 0, co, os, 0, 0, 0, [], []⟩ := hp
                refine zQ ?_
                refine ja G3 [blk b11 33 (coC co)] ?_ ?_ ?_; kernel_rfl
                · exact fun w s => s.head
                refine aT 0 rfl (ev_qe rfl) rfl rfl ?_ ?_ ?_ ?_; kernel_rfl; kernel_rfl; kernel_rfl
                refine aT 1 rfl (ev_indexAddr (i := 0) rfl rfl rfl (by show 0 < 1; decide)) rfl rfl ?_ ?_ ?_ ?_; kernel_rfl; kernel_rfl; kernel_rfl
                refine aT 2 rfl (ev_load rfl rfl (Rdb.ofF hncc')) rfl rfl ?_ ?_ ?_ ?_; kernel_rfl; kernel_rfl; kernel_rfl
                refine aT 3 rfl (ev_load_agg (cs := coC co) rfl rfl (Rdb.ofB (n := 0) .here rfl) rfl) rfl rfl ?_ ?_ ?_ ?_; kernel_rfl; kernel_rfl; kernel_rfl
                refine aT 4 rfl (ev_qe rfl) rfl rfl ?_ ?_ ?_ ?_; kernel_rfl; kernel_rfl; kernel_rfl
                refine aT 5 rfl (ev_build (t := stC ⟨1, n, 0, 0, co, os, 0, 0, 0, [], []⟩ (.slice oa os.length oc) nl nl) rfl rfl rfl (by repeat (first | exact FillF.nil | refine FillF.cons (by constructor) rfl rfl (by repeat constructor) ?_))) rfl rfl ?_ ?_ ?_ ?_; kernel_rfl; kernel_rfl; kernel_rfl
                refine aB (i := 6) (by kernel_rfl) (aN rfl (ev_store (vs := stC ⟨1, n, 0, 0, co, os, 0, 0, 0, [], []⟩ (.slice oa os.length oc) nl nl) rfl rfl .agg rfl rfl (lay_all (zs := zStC) rfl) (by unfold stC; (repeat (first | exact ones_nil | refine ones_cons rfl ?_))) (.there .here)) rfl (fun _ _ _ _ hq w s => by obtain ⟨e, _, e2⟩ := hq; subst e; subst e2; exact s.head) ?_)
                rintro _ _ _ _ ⟨rfl, _, rfl⟩
                refine aT 7 rfl (ev_qe rfl) rfl rfl ?_ ?_ ?_ ?_; kernel_rfl; kernel_rfl; kernel_rfl
                refine aD (by kernel_rfl) ?_
                refine zQ ?_
                exact J_retv (vs := [.agg (stC ⟨1, n, 0, 0, co, os, 0, 0, 0, [], []⟩ (.slice oa os.length oc) nl nl).toArray, .bool true]) rfl (.agg rfl rfl (Rdb.ofB (n := 0) (.there .here) rfl) rfl (.tmp rfl .nil)) [] (fun w s => s.drop.drop) hle9 ⟨rfl, ⟨1, n, 0, 0, co, os, 0, 0, 0, [], []⟩, _, nl, nl, true, rfl, ⟨inI1, hn, inI0, inI0, hco.ok, hos, Int.le_refl 0, by show (0 : Int) ≤ 4294967295; decide, inI0, inI0, SliceV.nil _ _, TagRow.nil _⟩, hco.letter, by rw [hp']; exact ⟨rfl, rfl⟩⟩
        · rw [ask_short (by omega)] at hp
          refine zQ ?_
          refine oS (ev_indexAddr (i := 0) rfl rfl rfl (by omega)) rfl ?_
          refine oS (ev_load rfl rfl (Rdb.ofF hc0')) rfl ?_
          refine zQ ?_
          refine oS (ev_seql (bs := name) (cs := wAsk) (r := true) rfl rfl (by rw [h0]; decide)) rfl ?_
          refine zQ ?_
          refine oS (ev_indexAddr (i := 0) rfl rfl rfl (by omega)) rfl ?_
          refine oS (ev_load rfl rfl (Rdb.ofF hc0')) rfl ?_
          refine zQ ?_
          refine oS (ev_seql (bs := name) (cs := wRequest) (r := false) rfl rfl (by rw [h0]; decide)) rfl ?_
          refine zQ ?_
          refine oS (ev_indexAddr (i := 0) rfl rfl rfl (by omega)) rfl ?_
          refine oS (ev_load rfl rfl (Rdb.ofF hc0')) rfl ?_
          refine zQ ?_
          refine oS (ev_seql (bs := name) (cs := wLie) (r := false) rfl rfl (by rw [h0]; decide)) rfl ?_
          refine zQ ?_
          refine oS (ev_indexAddr (i := 0) rfl rfl rfl (by omega)) rfl ?_
          refine oS (ev_load rfl rfl (Rdb.ofF hc0')) rfl ?_
          refine zQ ?_
          refine oS (ev_seql (bs := name) (cs := wForge) (r := false) rfl rfl (by rw [h0]; decide)) rfl ?_
          refine zQ ?_
          refine oN (ev_store (vs := zStC) rfl rfl .agg rfl rfl (lay_all (zs := zStC) rfl) (by unfold zStC stC; (repeat (first | exact ones_nil | refine ones_cons rfl ?_))) .here) rfl ?_
          rintro _ _ _ _ ⟨rfl, _, rfl⟩
          refine zQ ?_
          exact J_retv (vs := [.agg zStC.toArray, .bool false]) rfl (.agg rfl rfl (Rdb.ofB (n := 0) .here rfl) rfl (.tmp rfl .nil)) [] (fun w s => s.drop) hle2 ⟨rfl, zSt, nl, nl, nl, false, rfl, zSt_ok _, zLet, by rw [hp]; exact ⟨rfl, rfl⟩⟩
      rw [if_neg h0] at hp
      by_cases h1 : name = wRequest
      · rw [if_pos h1] at hp
        by_cases hl : 11 ≤ R.length + 1
        · obtain ⟨w1, w2, w3, w4, w5, c1, c2, c3, c4, c5, rest, rfl⟩ := uncons10 (R := R) (by omega)
          have hLL : (name :: w1 :: w2 :: w3 :: w4 :: w5 :: c1 :: c2 :: c3 :: c4 :: c5 :: rest).length = rest.length + 11 := rfl
          rw [req_plain] at hp
          refine zQ ?_
          refine oS (ev_indexAddr (i := 0) rfl rfl rfl (by omega)) rfl ?_
          refine oS (ev_load rfl rfl (Rdb.ofF hc0')) rfl ?_
          refine zQ ?_
          refine oS (ev_seql (bs := name) (cs := wAsk) (r := false) rfl rfl (by rw [h1]; decide)) rfl ?_
          refine zQ ?_
          refine oS (ev_indexAddr (i := 0) rfl rfl rfl (by omega)) rfl ?_
          refine oS (ev_load rfl rfl (Rdb.ofF hc0')) rfl ?_
          refine zQ ?_
          refine oS (ev_seql (bs := name) (cs := wRequest) (r := true) rfl rfl (by rw [h1]; decide)) rfl ?_
          refine zQ ?_
          refine oS (ev_slice_lohi (lo := 1) (hi := 6) rfl rfl rfl rfl (by decide) (by omega)) rfl ?_
          refine oC (Hc := []) (Hr := blk b2 40 zStC :: X) (dints_spec _ [w1, w2, w3, w4, w5] F2 (hv2.cut (lo := 1) (hi := 6) (by decide) (by omega)) (by simp)) Tryz.call16 rfl rfl (fun _ s => s) ?_
          rintro _ G1 _ hG1 ⟨rfl, vn, rfl, hrow⟩
          refine zQ ?_
          refine oS (ev_slice_lohi (lo := 6) (hi := 11) rfl rfl rfl rfl (by decide) (by omega)) rfl ?_
          refine oC (Hc := []) (Hr := blk b2 40 zStC :: X) (dcore_spec _ c1 c2 c3 c4 c5 G1 ((hv2.mono hG1).cut (lo := 6) (hi := 11) (by decide) (by omega))) Tryz.call44 rfl rfl (fun _ s => s) ?_
          rintro _ G2 _ hG2 ⟨rfl, co, rfl, hco, hcx⟩
          refine zQ ?_
          refine oE (ev_alloc (cs := coC zCo) rfl) rfl ?_
          rintro _ _ _ _ ⟨rfl, b11, rfl, rfl⟩
          refine oN (ev_store (vs := coC co) rfl rfl .agg rfl rfl (lay_all (zs := coC zCo) rfl) (by unfold coC; (repeat (first | exact ones_nil | refine ones_cons rfl ?_))) .here) rfl ?_
          rintro _ _ _ _ ⟨rfl, _, rfl⟩
          refine zQ ?_
          refine oS (ev_slice_lo (lo := 11) rfl rfl rfl (by omega)) rfl ?_
          refine oC (Hc := []) (Hr := blk b11 33 (coC co) :: blk b2 40 zStC :: X) (dints_spec _ rest G2 (((hv2.mono hG1).mono hG2).from (lo := 11) (by omega)) (by omega)) Tryz.call16 rfl rfl (fun _ s => s) ?_
          rintro _ G3 _ hG3 ⟨rfl, vo, rfl, hos⟩
          have hle9 := hle2.trans (hG1.trans (hG2.trans hG3))
          cases e1 : allW numW [w1, w2, w3, w4, w5] with
          | none =>
            rw [e1] at hp
            cases e2 : (coreR [c1, c2, c3, c4, c5]).isSome <;> cases e3 : (allW numW rest).isSome <;> dsimp only [Option.isSome]
            all_goals
              refine zQ ?_
              refine oN (ev_store (vs := zStC) rfl rfl .agg rfl rfl (lay_all (zs := zStC) rfl) (by unfold zStC stC; (repeat (first | exact ones_nil | refine ones_cons rfl ?_))) (.there .here)) rfl ?_
              rintro _ _ _ _ ⟨rfl, _, rfl⟩
              refine zQ ?_
              exact J_retv (vs := [.agg zStC.toArray, .bool false]) rfl (.agg rfl rfl (Rdb.ofB (n := 0) (.there .here) rfl) rfl (.tmp rfl .nil)) [] (fun w s => s.drop.drop) hle9 ⟨rfl, zSt, nl, nl, nl, false, rfl, zSt_ok _, zLet, by rw [hp]; exact ⟨rfl, rfl⟩⟩
          | some l1 =>
            rw [e1] at hp hrow
            cases e2 : coreR [c1, c2, c3, c4, c5] with
            | none =>
              rw [e2] at hp
              cases e3 : (allW numW rest).isSome <;> dsimp only [Option.isSome]
              all_goals
                refine zQ ?_
                refine oN (ev_store (vs := zStC) rfl rfl .agg rfl rfl (lay_all (zs := zStC) rfl) (by unfold zStC stC; (repeat (first | exact ones_nil | refine ones_cons rfl ?_))) (.there .here)) rfl ?_
                rintro _ _ _ _ ⟨rfl, _, rfl⟩
                refine zQ ?_
                exact J_retv (vs := [.agg zStC.toArray, .bool false]) rfl (.agg rfl rfl (Rdb.ofB (n := 0) (.there .here) rfl) rfl (.tmp rfl .nil)) [] (fun w s => s.drop.drop) hle9 ⟨rfl, zSt, nl, nl, nl, false, rfl, zSt_ok _, zLet, by rw [hp]; exact ⟨rfl, rfl⟩⟩
            | some co2 =>
              obtain rfl := hcx co2 e2
              rw [e2] at hp
              cases e3 : allW numW rest with
              | none =>
                rw [e3] at hp
                dsimp only [Option.isSome]
                refine zQ ?_
                refine oN (ev_store (vs := zStC) rfl rfl .agg rfl rfl (lay_all (zs := zStC) rfl) (by unfold zStC stC; (repeat (first | exact ones_nil | refine ones_cons rfl ?_))) (.there .here)) rfl ?_
                rintro _ _ _ _ ⟨rfl, _, rfl⟩
                refine zQ ?_
                exact J_retv (vs := [.agg zStC.toArray, .bool false]) rfl (.agg rfl rfl (Rdb.ofB (n := 0) (.there .here) rfl) rfl (.tmp rfl .nil)) [] (fun w s => s.drop.drop) hle9 ⟨rfl, zSt, nl, nl, nl, false, rfl, zSt_ok _, zLet, by rw [hp]; exact ⟨rfl, rfl⟩⟩
              | some os =>
                rw [e3] at hp hos
                dsimp only [Option.isSome, Option.getD] at hrow hos ⊢
                obtain ⟨n1, n2, n3, n4, n5, rfl⟩ := list5 (allW_len e1)
                obtain ⟨na, nc, rfl, _, hnat⟩ := hrow.at1
                obtain ⟨oa, oc, rfl, _, _⟩ := hos.at1
                obtain ⟨nb, no, rfl, hx0⟩ := hnat 0 n1 rfl
                obtain ⟨_, _, e, hx1⟩ := hnat 1 n2 rfl
                cases e
                obtain ⟨_, _, e, hx2⟩ := hnat 2 n3 rfl
                cases e
                obtain ⟨_, _, e, hx3⟩ := hnat 3 n4 rfl
                cases e
                obtain ⟨_, _, e, hx4⟩ := hnat 4 n5 rfl
                cases e
                replace hx0 := (hx0.mono hG2).mono hG3
                replace hx1 := (hx1.mono hG2).mono hG3
                replace hx2 := (hx2.mono hG2).mono hG3
                replace hx3 := (hx3.mono hG2).mono hG3
                replace hx4 := (hx4.mono hG2).mono hG3
                have i1 := hrow.2 n1 (by simp)
                have i2 := hrow.2 n2 (by simp)
                have i4 := hrow.2 n4 (by simp)
                have i5 := hrow.2 n5 (by simp)
                have hn1 : ([n1, n2, n3, n4, n5] : List Int).length = 5 := rfl
                have hp' : parseP (name :: w1 :: w2 :: w3 :: w4 :: w5 :: c1 :: c2 :: c3 :: c4 :: c5 :: rest) = if 0 ≤ n3 ∧ n3 < 4294967296 then some ⟨7, n1, n2, 0, { co with client := n4, stamp := n5 }, os, n3, 1, 0, [], []⟩ else none := hp
                by_cases hb0 : 0 ≤ n3
                case neg =>
                  rw [if_neg (fun h => hb0 h.1)] at hp'
                  refine zQ ?_
                  refine oS (ev_indexAddr (i := 2) rfl rfl rfl (by omega)) rfl ?_
                  refine oS (ev_load rfl rfl (Rdb.ofF hx2)) rfl ?_
                  refine zQ ?_
                  refine oN (ev_store (vs := zStC) rfl rfl .agg rfl rfl (lay_all (zs := zStC) rfl) (by unfold zStC stC; (repeat (first | exact ones_nil | refine ones_cons rfl ?_))) (.there .here)) rfl ?_
                  rintro _ _ _ _ ⟨rfl, _, rfl⟩
                  refine zQ ?_
                  exact J_retv (vs := [.agg zStC.toArray, .bool false]) rfl (.agg rfl rfl (Rdb.ofB (n := 0) (.there .here) rfl) rfl (.tmp rfl .nil)) [] (fun w s => s.drop.drop) hle9 ⟨rfl, zSt, nl, nl, nl, false, rfl, zSt_ok _, zLet, by rw [hp']; exact ⟨rfl, rfl⟩⟩
                by_cases hb1 : n3 < 4294967296
                case neg =>
                  rw [if_neg (fun h => hb1 h.2)] at hp'
                  refine zQ ?_
                  refine oS (ev_indexAddr (i := 2) rfl rfl rfl (by omega)) rfl ?_
                  refine oS (ev_load rfl rfl (Rdb.ofF hx2)) rfl ?_
                  refine zQ ?_
                  refine oS (ev_indexAddr (i := 2) rfl rfl rfl (by omega)) rfl ?_
                  refine oS (ev_load rfl rfl (Rdb.ofF hx2)) rfl ?_
                  refine zQ ?_
                  refine oN (ev_store (vs := zStC) rfl rfl .agg rfl rfl (lay_all (zs := zStC) rfl) (by unfold zStC stC; (repeat (first | exact ones_nil | refine ones_cons rfl ?_))) (.there .here)) rfl ?_
                  rintro _ _ _ _ ⟨rfl, _, rfl⟩
                  refine zQ ?_
                  exact J_retv (vs := [.agg zStC.toArray, .bool false]) rfl (.agg rfl rfl (Rdb.ofB (n := 0) (.there .here) rfl) rfl (.tmp rfl .nil)) [] (fun w s => s.drop.drop) hle9 ⟨rfl, zSt, nl, nl, nl, false, rfl, zSt_ok _, zLet, by rw [hp']; exact ⟨rfl, rfl⟩⟩
                rw [if_pos ⟨hb0, hb1⟩] at hp'
                refine zQ ?_
                refine oS (ev_indexAddr (i := 2) rfl rfl rfl (by omega)) rfl ?_
                refine oS (ev_load rfl rfl (Rdb.ofF hx2)) rfl ?_
                refine zQ ?_
                refine oS (ev_indexAddr (i := 2) rfl rfl rfl (by omega)) rfl ?_
                refine oS (ev_load rfl rfl (Rdb.ofF hx2)) rfl ?_
                refine zQ ?_
                refine ja G3 [] ?_ ?_ ?_; kernel_rfl
                · exact fun w s => s.bare
                refine aT 0 rfl (ev_qe rfl) rfl rfl ?_ ?_ ?_ ?_; kernel_rfl; kernel_rfl; kernel_rfl
                refine aT 1 rfl (ev_indexAddr (i := 3) rfl rfl rfl (by omega)) rfl rfl ?_ ?_ ?_ ?_; kernel_rfl; kernel_rfl; kernel_rfl
                refine aT 2 rfl (ev_load rfl rfl (Rdb.ofF hx3)) rfl rfl ?_ ?_ ?_ ?_; kernel_rfl; kernel_rfl; kernel_rfl
                refine aT 3 rfl (ev_qe rfl) rfl rfl ?_ ?_ ?_ ?_; kernel_rfl; kernel_rfl; kernel_rfl
                refine aT 4 rfl (ev_indexAddr (i := 4) rfl rfl rfl (by omega)) rfl rfl ?_ ?_ ?_ ?_; kernel_rfl; kernel_rfl; kernel_rfl
                refine aT 5 rfl (ev_load rfl rfl (Rdb.ofF hx4)) rfl rfl ?_ ?_ ?_ ?_; kernel_rfl; kernel_rfl; kernel_rfl
                refine aT 6 rfl (ev_qe rfl) rfl rfl ?_ ?_ ?_ ?_; kernel_rfl; kernel_rfl; kernel_rfl
                refine aB (i := 7) (by kernel_rfl) (aN rfl (ev_store rfl rfl .int rfl rfl (.put .nil) (ones_cons rfl ones_nil) .here) rfl (fun _ _ _ _ hq w s => by obtain ⟨e, _⟩ := hq; subst e; exact s.bare) ?_)
                rintro _ _ _ _ ⟨rfl, _, rfl⟩
                refine aT 8 rfl (ev_qe rfl) rfl rfl ?_ ?_ ?_ ?_; kernel_rfl; kernel_rfl; kernel_rfl
                refine aB (i := 9) (by kernel_rfl) (aN rfl (ev_store rfl rfl .int rfl rfl (.skip (.put .nil)) (ones_cons rfl ones_nil) .here) rfl (fun _ _ _ _ hq w s => by obtain ⟨e, _⟩ := hq; subst e; exact s.bare) ?_)
                rintro _ _ _ _ ⟨rfl, _, rfl⟩
                refine aD (by kernel_rfl) ?_
                obtain ⟨co3, hco3⟩ : ∃ co3 : Co, co3 = { co with client := n4, stamp := n5 } := ⟨_, rfl⟩
                rw [← hco3] at hp'
                have hcin : CoIn co3 := by rw [hco3]; exact ⟨i4, i5, hco.ok.op, hco.ok.a, hco.ok.b⟩
                have hcl : co3.letter.length ≤ 2000000 := by rw [hco3]; exact hco.letter
                show J _ _ _ _ (blk b11 33 (coC { co with client := n4, stamp := n5 }) :: blk b2 40 zStC :: X)
                rw [← hco3]
                refine zQ ?_
                refine ja G3 [blk b11 33 (coC co3)] ?_ ?_ ?_; kernel_rfl
                · exact fun w s => s.head
                refine aT 0 rfl (ev_qe rfl) rfl rfl ?_ ?_ ?_ ?_; kernel_rfl; kernel_rfl; kernel_rfl
                refine aT 1 rfl (ev_indexAddr (i := 0) rfl rfl rfl (by omega)) rfl rfl ?_ ?_ ?_ ?_; kernel_rfl; kernel_rfl; kernel_rfl
                refine aT 2 rfl (ev_load rfl rfl (Rdb.ofF hx0)) rfl rfl ?_ ?_ ?_ ?_; kernel_rfl; kernel_rfl; kernel_rfl
                refine aT 3 rfl (ev_qe rfl) rfl rfl ?_ ?_ ?_ ?_; kernel_rfl; kernel_rfl; kernel_rfl
                refine aT 4 rfl (ev_indexAddr (i := 1) rfl rfl rfl (by omega)) rfl rfl ?_ ?_ ?_ ?_; kernel_rfl; kernel_rfl; kernel_rfl
                refine aT 5 rfl (ev_load rfl rfl (Rdb.ofF hx1)) rfl rfl ?_ ?_ ?_ ?_; kernel_rfl; kernel_rfl; kernel_rfl
                refine aT 6 rfl (ev_qe rfl) rfl rfl ?_ ?_ ?_ ?_; kernel_rfl; kernel_rfl; kernel_rfl
                refine aT 7 rfl (ev_indexAddr (i := 2) rfl rfl rfl (by omega)) rfl rfl ?_ ?_ ?_ ?_; kernel_rfl; kernel_rfl; kernel_rfl
                refine aT 8 rfl (ev_load rfl rfl (Rdb.ofF hx2)) rfl rfl ?_ ?_ ?_ ?_; kernel_rfl; kernel_rfl; kernel_rfl
                refine aT 9 rfl (ev_conv (r := n3) rfl rfl rfl (u32_id ⟨hb0, hb1⟩)) rfl rfl ?_ ?_ ?_ ?_; kernel_rfl; kernel_rfl; kernel_rfl
                refine aT 10 rfl (ev_load_agg (cs := coC co3) rfl rfl (Rdb.ofB (n := 0) .here rfl) rfl) rfl rfl ?_ ?_ ?_ ?_; kernel_rfl; kernel_rfl; kernel_rfl
                refine aT 11 rfl (ev_qe rfl) rfl rfl ?_ ?_ ?_ ?_; kernel_rfl; kernel_rfl; kernel_rfl
                refine aT 12 rfl (ev_build (t := [.int .i64 1, .int .i64 0, nl, nl]) rfl rfl rfl (by repeat (first | exact FillF.nil | refine FillF.cons (by constructor) rfl rfl (by repeat constructor) ?_))) rfl rfl ?_ ?_ ?_ ?_; kernel_rfl; kernel_rfl; kernel_rfl
                refine aT 13 rfl (ev_build (t := stC ⟨7, n1, n2, 0, co3, os, n3, 1, 0, [], []⟩ (.slice oa os.length oc) nl nl) rfl rfl rfl (by repeat (first | exact FillF.nil | refine FillF.cons (by constructor) rfl rfl (by repeat constructor) ?_))) rfl rfl ?_ ?_ ?_ ?_; kernel_rfl; kernel_rfl; kernel_rfl
                refine aB (i := 14) (by kernel_rfl) (aN rfl (ev_store (vs := stC ⟨7, n1, n2, 0, co3, os, n3, 1, 0, [], []⟩ (.slice oa os.length oc) nl nl) rfl rfl .agg rfl rfl (lay_all (zs := zStC) rfl) (by unfold stC; (repeat (first | exact ones_nil | refine ones_cons rfl ?_))) (.there .here)) rfl (fun _ _ _ _ hq w s => by obtain ⟨e, _, e2⟩ := hq; subst e; subst e2; exact s.head) ?_)
                rintro _ _ _ _ ⟨rfl, _, rfl⟩
                refine aT 15 rfl (ev_qe rfl) rfl rfl ?_ ?_ ?_ ?_; kernel_rfl; kernel_rfl; kernel_rfl
                refine aD (by kernel_rfl) ?_
                refine zQ ?_
                exact J_retv (vs := [.agg (stC ⟨7, n1, n2, 0, co3, os, n3, 1, 0, [], []⟩ (.slice oa os.length oc) nl nl).toArray, .bool true]) rfl (.agg rfl rfl (Rdb.ofB (n := 0) (.there .here) rfl) rfl (.tmp rfl .nil)) [] (fun w s => s.drop.drop) hle9 ⟨rfl, ⟨7, n1, n2, 0, co3, os, n3, 1, 0, [], []⟩, _, nl, nl, true, rfl, ⟨inI7, i1, i2, inI0, hcin, hos, hb0, by show n3 ≤ 4294967295; omega, inI1, inI0, SliceV.nil _ _, TagRow.nil _⟩, hcl, by rw [hp']; exact ⟨rfl, rfl⟩⟩
        · rw [req_short (by omega)] at hp
          refine zQ ?_
          refine oS (ev_indexAddr (i := 0) rfl rfl rfl (by omega)) rfl ?_
          refine oS (ev_load rfl rfl (Rdb.ofF hc0')) rfl ?_
          refine zQ ?_
          refine oS (ev_seql (bs := name) (cs := wAsk) (r := false) rfl rfl (by rw [h1]; decide)) rfl ?_
          refine zQ ?_
          refine oS (ev_indexAddr (i := 0) rfl rfl rfl (by omega)) rfl ?_
          refine oS (ev_load rfl rfl (Rdb.ofF hc0')) rfl ?_
          refine zQ ?_
          refine oS (ev_seql (bs := name) (cs := wRequest) (r := true) rfl rfl (by rw [h1]; decide)) rfl ?_
          refine zQ ?_
          refine oS (ev_indexAddr (i := 0) rfl rfl rfl (by omega)) rfl ?_
          refine oS (ev_load rfl rfl (Rdb.ofF hc0')) rfl ?_
          refine zQ ?_
          refine oS (ev_seql (bs := name) (cs := wLie) (r := false) rfl rfl (by rw [h1]; decide)) rfl ?_
          refine zQ ?_
          refine oS (ev_indexAddr (i := 0) rfl rfl rfl (by omega)) rfl ?_
          refine oS (ev_load rfl rfl (Rdb.ofF hc0')) rfl ?_
          refine zQ ?_
          refine oS (ev_seql (bs := name) (cs := wForge) (r := false) rfl rfl (by rw [h1]; decide)) rfl ?_
          refine zQ ?_
          refine oN (ev_store (vs := zStC) rfl rfl .agg rfl rfl (lay_all (zs := zStC) rfl) (by unfold zStC stC; (repeat (first | exact ones_nil | refine ones_cons rfl ?_))) .here) rfl ?_
          rintro _ _ _ _ ⟨rfl, _, rfl⟩
          refine zQ ?_
          exact J_retv (vs := [.agg zStC.toArray, .bool false]) rfl (.agg rfl rfl (Rdb.ofB (n := 0) .here rfl) rfl (.tmp rfl .nil)) [] (fun w s => s.drop) hle2 ⟨rfl, zSt, nl, nl, nl, false, rfl, zSt_ok _, zLet, by rw [hp]; exact ⟨rfl, rfl⟩⟩
      rw [if_neg h1] at hp
      by_cases h2 : name = wLie
      · rw [if_pos h2] at hp
        by_cases hl : R.length + 1 = 5
        · obtain ⟨w1, w2, w3, w4, rest, rfl⟩ := uncons4 (R := R) (by omega)
          obtain rfl : rest = [] := List.eq_nil_of_length_eq_zero (by simp only [List.length_cons] at hl; omega)
          have hLL : (name :: [w1, w2, w3, w4]).length = 5 := rfl
          obtain ⟨_, _, e, hc4⟩ := hat 4 w4 rfl
          cases e
          have n4 := hwlen w4 (by simp)
          replace hc4 := hc4.mono hF2
          rw [lie_plain] at hp
          refine zQ ?_
          refine oS (ev_indexAddr (i := 0) rfl rfl rfl (by omega)) rfl ?_
          refine oS (ev_load rfl rfl (Rdb.ofF hc0')) rfl ?_
          refine zQ ?_
          refine oS (ev_seql (bs := name) (cs := wAsk) (r := false) rfl rfl (by rw [h2]; decide)) rfl ?_
          refine zQ ?_
          refine oS (ev_indexAddr (i := 0) rfl rfl rfl (by omega)) rfl ?_
          refine oS (ev_load rfl rfl (Rdb.ofF hc0')) rfl ?_
          refine zQ ?_
          refine oS (ev_seql (bs := name) (cs := wRequest) (r := false) rfl rfl (by rw [h2]; decide)) rfl ?_
          refine zQ ?_
          refine oS (ev_indexAddr (i := 0) rfl rfl rfl (by omega)) rfl ?_
          refine oS (ev_load rfl rfl (Rdb.ofF hc0')) rfl ?_
          refine zQ ?_
          refine oS (ev_seql (bs := name) (cs := wLie) (r := true) rfl rfl (by rw [h2]; decide)) rfl ?_
          refine zQ ?_
          refine oS (ev_slice_lohi (lo := 1) (hi := 4) rfl rfl rfl rfl (by decide) (by omega)) rfl ?_
          refine oC (Hc := []) (Hr := blk b2 40 zStC :: X) (dints_spec _ [w1, w2, w3] F2 (hv2.cut (lo := 1) (hi := 4) (by decide) (by omega)) (by simp)) Tryz.call16 rfl rfl (fun _ s => s) ?_
          rintro _ G1 _ hG1 ⟨rfl, vn, rfl, hrow⟩
          refine zQ ?_
          refine oS (ev_indexAddr (i := 4) rfl rfl rfl (by omega)) rfl ?_
          refine oS (ev_load rfl rfl (Rdb.ofF (hc4.mono hG1))) rfl ?_
          refine oC (Hc := []) (Hr := blk b2 40 zStC :: X) (dbytes_spec w4 G1 n4) Tryz.call45 rfl rfl (fun _ s => s) ?_
          rintro _ G2 _ hG2 ⟨rfl, vb, rfl, hvb⟩
          have hle9 := hle2.trans (hG1.trans hG2)
          cases e1 : allW numW [w1, w2, w3] with
          | none =>
            rw [e1] at hp
            cases e2 : (bytesW w4).isSome <;> dsimp only [Option.isSome]
            all_goals
              refine zQ ?_
              refine oN (ev_store (vs := zStC) rfl rfl .agg rfl rfl (lay_all (zs := zStC) rfl) (by unfold zStC stC; (repeat (first | exact ones_nil | refine ones_cons rfl ?_))) .here) rfl ?_
              rintro _ _ _ _ ⟨rfl, _, rfl⟩
              refine zQ ?_
              exact J_retv (vs := [.agg zStC.toArray, .bool false]) rfl (.agg rfl rfl (Rdb.ofB (n := 0) .here rfl) rfl (.tmp rfl .nil)) [] (fun w s => s.drop) hle9 ⟨rfl, zSt, nl, nl, nl, false, rfl, zSt_ok _, zLet, by rw [hp]; exact ⟨rfl, rfl⟩⟩
          | some l1 =>
            rw [e1] at hp hrow
            cases e2 : bytesW w4 with
            | none =>
              rw [e2] at hp
              dsimp only [Option.isSome]
              refine zQ ?_
              refine oN (ev_store (vs := zStC) rfl rfl .agg rfl rfl (lay_all (zs := zStC) rfl) (by unfold zStC stC; (repeat (first | exact ones_nil | refine ones_cons rfl ?_))) .here) rfl ?_
              rintro _ _ _ _ ⟨rfl, _, rfl⟩
              refine zQ ?_
              exact J_retv (vs := [.agg zStC.toArray, .bool false]) rfl (.agg rfl rfl (Rdb.ofB (n := 0) .here rfl) rfl (.tmp rfl .nil)) [] (fun w s => s.drop) hle9 ⟨rfl, zSt, nl, nl, nl, false, rfl, zSt_ok _, zLet, by rw [hp]; exact ⟨rfl, rfl⟩⟩
            | some body =>
              rw [e2] at hp hvb
              dsimp only [Option.isSome, Option.getD] at hrow hvb ⊢
              obtain ⟨n1, n2, n3, rfl⟩ := list3 (allW_len e1)
              obtain ⟨na, nc, rfl, _, hnat⟩ := hrow.at1
              have hvb' : Byt G2 vb body := hvb
              obtain ⟨_, ba, bc, rfl, _, _⟩ := slice1 hvb'
              obtain ⟨nb, no, rfl, hx0⟩ := hnat 0 n1 rfl
              obtain ⟨_, _, e, hx1⟩ := hnat 1 n2 rfl
              cases e
              obtain ⟨_, _, e, hx2⟩ := hnat 2 n3 rfl
              cases e
              replace hx0 := hx0.mono hG2
              replace hx1 := hx1.mono hG2
              replace hx2 := hx2.mono hG2
              have i1 := hrow.2 n1 (by simp)
              have i2 := hrow.2 n2 (by simp)
              have i3 := hrow.2 n3 (by simp)
              have hn1 : ([n1, n2, n3] : List Int).length = 3 := rfl
              have hp' : parseP (name :: [w1, w2, w3, w4]) = if n3 = 1 then none else some ⟨7, n1, n2, 0, zCo, [], 0, n3, 0, body, []⟩ := hp
              by_cases hk : n3 = 1
              · rw [if_pos hk] at hp'
                refine zQ ?_
                refine oS (ev_indexAddr (i := 2) rfl rfl rfl (by omega)) rfl ?_
                refine oS (ev_load rfl rfl (Rdb.ofF hx2)) rfl ?_
                refine zQ ?_
                refine oN (ev_store (vs := zStC) rfl rfl .agg rfl rfl (lay_all (zs := zStC) rfl) (by unfold zStC stC; (repeat (first | exact ones_nil | refine ones_cons rfl ?_))) .here) rfl ?_
                rintro _ _ _ _ ⟨rfl, _, rfl⟩
                refine zQ ?_
                exact J_retv (vs := [.agg zStC.toArray, .bool false]) rfl (.agg rfl rfl (Rdb.ofB (n := 0) .here rfl) rfl (.tmp rfl .nil)) [] (fun w s => s.drop) hle9 ⟨rfl, zSt, nl, nl, nl, false, rfl, zSt_ok _, zLet, by rw [hp']; exact ⟨rfl, rfl⟩⟩
              rw [if_neg hk] at hp'
              refine zQ ?_
              refine oS (ev_indexAddr (i := 2) rfl rfl rfl (by omega)) rfl ?_
              refine oS (ev_load rfl rfl (Rdb.ofF hx2)) rfl ?_
              refine zQ ?_
              refine ja G2 [] ?_ ?_ ?_; kernel_rfl
              · exact fun w s => s.bare
              refine aT 0 rfl (ev_qe rfl) rfl rfl ?_ ?_ ?_ ?_; kernel_rfl; kernel_rfl; kernel_rfl
              refine aT 1 rfl (ev_indexAddr (i := 0) rfl rfl rfl (by omega)) rfl rfl ?_ ?_ ?_ ?_; kernel_rfl; kernel_rfl; kernel_rfl
              refine aT 2 rfl (ev_load rfl rfl (Rdb.ofF hx0)) rfl rfl ?_ ?_ ?_ ?_; kernel_rfl; kernel_rfl; kernel_rfl
              refine aT 3 rfl (ev_qe rfl) rfl rfl ?_ ?_ ?_ ?_; kernel_rfl; kernel_rfl; kernel_rfl
              refine aT 4 rfl (ev_indexAddr (i := 1) rfl rfl rfl (by omega)) rfl rfl ?_ ?_ ?_ ?_; kernel_rfl; kernel_rfl; kernel_rfl
              refine aT 5 rfl (ev_load rfl rfl (Rdb.ofF hx1)) rfl rfl ?_ ?_ ?_ ?_; kernel_rfl; kernel_rfl; kernel_rfl
              refine aT 6 rfl (ev_qe rfl) rfl rfl ?_ ?_ ?_ ?_; kernel_rfl; kernel_rfl; kernel_rfl
              refine aT 7 rfl (ev_indexAddr (i := 2) rfl rfl rfl (by omega)) rfl rfl ?_ ?_ ?_ ?_; kernel_rfl; kernel_rfl; kernel_rfl
              refine aT 8 rfl (ev_load rfl rfl (Rdb.ofF hx2)) rfl rfl ?_ ?_ ?_ ?_; kernel_rfl; kernel_rfl; kernel_rfl
              refine aT 9 rfl (ev_qe rfl) rfl rfl ?_ ?_ ?_ ?_; kernel_rfl; kernel_rfl; kernel_rfl
              refine aT 10 rfl (ev_build (t := [.int .i64 n3, .int .i64 0, .slice ba body.length bc, nl]) rfl rfl rfl (by repeat (first | exact FillF.nil | refine FillF.cons (by constructor) rfl rfl (by repeat constructor) ?_))) rfl rfl ?_ ?_ ?_ ?_; kernel_rfl; kernel_rfl; kernel_rfl
              refine aT 11 rfl (ev_build (t := stC ⟨7, n1, n2, 0, zCo, [], 0, n3, 0, body, []⟩ nl (.slice ba body.length bc) nl) rfl rfl rfl (by repeat (first | exact FillF.nil | refine FillF.cons (by constructor) rfl rfl (by repeat constructor) ?_))) rfl rfl ?_ ?_ ?_ ?_; kernel_rfl; kernel_rfl; kernel_rfl
              refine aB (i := 12) (by kernel_rfl) (aN rfl (ev_store (vs := stC ⟨7, n1, n2, 0, zCo, [], 0, n3, 0, body, []⟩ nl (.slice ba body.length bc) nl) rfl rfl .agg rfl rfl (lay_all (zs := zStC) rfl) (by unfold stC; (repeat (first | exact ones_nil | refine ones_cons rfl ?_))) .here) rfl (fun _ _ _ _ hq w s => by obtain ⟨e, _⟩ := hq; subst e; exact s.bare) ?_)
              rintro _ _ _ _ ⟨rfl, _, rfl⟩
              refine aT 13 rfl (ev_qe rfl) rfl rfl ?_ ?_ ?_ ?_; kernel_rfl; kernel_rfl; kernel_rfl
              refine aD (by kernel_rfl) ?_
              refine zQ ?_
              exact J_retv (vs := [.agg (stC ⟨7, n1, n2, 0, zCo, [], 0, n3, 0, body, []⟩ nl (.slice ba body.length bc) nl).toArray, .bool true]) rfl (.agg rfl rfl (Rdb.ofB (n := 0) .here rfl) rfl (.tmp rfl .nil)) [] (fun w s => s.drop) hle9 ⟨rfl, ⟨7, n1, n2, 0, zCo, [], 0, n3, 0, body, []⟩, nl, _, nl, true, rfl, ⟨inI7, i1, i2, inI0, zCo_in, NumRow.nil _, Int.le_refl 0, by show (0 : Int) ≤ 4294967295; decide, i3, inI0, hvb, TagRow.nil _⟩, by show ([] : W8).length ≤ 2000000; simp, by rw [hp']; exact ⟨rfl, rfl⟩⟩
        · rw [lie_short (by omega)] at hp
          refine zQ ?_
          refine oS (ev_indexAddr (i := 0) rfl rfl rfl (by omega)) rfl ?_
          refine oS (ev_load rfl rfl (Rdb.ofF hc0')) rfl ?_
          refine zQ ?_
          refine oS (ev_seql (bs := name) (cs := wAsk) (r := false) rfl rfl (by rw [h2]; decide)) rfl ?_
          refine zQ ?_
          refine oS (ev_indexAddr (i := 0) rfl rfl rfl (by omega)) rfl ?_
          refine oS (ev_load rfl rfl (Rdb.ofF hc0')) rfl ?_
          refine zQ ?_
          refine oS (ev_seql (bs := name) (cs := wRequest) (r := false) rfl rfl (by rw [h2]; decide)) rfl ?_
          refine zQ ?_
          refine oS (ev_indexAddr (i := 0) rfl rfl rfl (by omega)) rfl ?_
          refine oS (ev_load rfl rfl (Rdb.ofF hc0')) rfl ?_
          refine zQ ?_
          refine oS (ev_seql (bs := name) (cs := wLie) (r := true) rfl rfl (by rw [h2]; decide)) rfl ?_
          refine zQ ?_
          refine oS (ev_indexAddr (i := 0) rfl rfl rfl (by omega)) rfl ?_
          refine oS (ev_load rfl rfl (Rdb.ofF hc0')) rfl ?_
          refine zQ ?_
          refine oS (ev_seql (bs := name) (cs := wForge) (r := false) rfl rfl (by rw [h2]; decide)) rfl ?_
          refine zQ ?_
          refine oN (ev_store (vs := zStC) rfl rfl .agg rfl rfl (lay_all (zs := zStC) rfl) (by unfold zStC stC; (repeat (first | exact ones_nil | refine ones_cons rfl ?_))) .here) rfl ?_
          rintro _ _ _ _ ⟨rfl, _, rfl⟩
          refine zQ ?_
          exact J_retv (vs := [.agg zStC.toArray, .bool false]) rfl (.agg rfl rfl (Rdb.ofB (n := 0) .here rfl) rfl (.tmp rfl .nil)) [] (fun w s => s.drop) hle2 ⟨rfl, zSt, nl, nl, nl, false, rfl, zSt_ok _, zLet, by rw [hp]; exact ⟨rfl, rfl⟩⟩
      rw [if_neg h2] at hp
      by_cases h3 : name = wForge
      · rw [if_pos h3] at hp
        by_cases hl : 5 ≤ R.length + 1
        · obtain ⟨w1, w2, w3, w4, rest, rfl⟩ := uncons4 (R := R) (by omega)
          have hLL : (name :: w1 :: w2 :: w3 :: w4 :: rest).length = rest.length + 5 := rfl
          obtain ⟨_, _, e, hc4⟩ := hat 4 w4 rfl
          cases e
          have n4 := hwlen w4 (by simp)
          replace hc4 := hc4.mono hF2
          rw [forge_plain] at hp
          refine zQ ?_
          refine oS (ev_indexAddr (i := 0) rfl rfl rfl (by omega)) rfl ?_
          refine oS (ev_load rfl rfl (Rdb.ofF hc0')) rfl ?_
          refine zQ ?_
          refine oS (ev_seql (bs := name) (cs := wAsk) (r := false) rfl rfl (by rw [h3]; decide)) rfl ?_
          refine zQ ?_
          refine oS (ev_indexAddr (i := 0) rfl rfl rfl (by omega)) rfl ?_
          refine oS (ev_load rfl rfl (Rdb.ofF hc0')) rfl ?_
          refine zQ ?_
          refine oS (ev_seql (bs := name) (cs := wRequest) (r := false) rfl rfl (by rw [h3]; decide)) rfl ?_
          refine zQ ?_
          refine oS (ev_indexAddr (i := 0) rfl rfl rfl (by omega)) rfl ?_
          refine oS (ev_load rfl rfl (Rdb.ofF hc0')) rfl ?_
          refine zQ ?_
          refine oS (ev_seql (bs := name) (cs := wLie) (r := false) rfl rfl (by rw [h3]; decide)) rfl ?_
          refine zQ ?_
          refine oS (ev_indexAddr (i := 0) rfl rfl rfl (by omega)) rfl ?_
          refine oS (ev_load rfl rfl (Rdb.ofF hc0')) rfl ?_
          refine zQ ?_
          refine oS (ev_seql (bs := name) (cs := wForge) (r := true) rfl rfl (by rw [h3]; decide)) rfl ?_
          refine zQ ?_
          refine oS (ev_slice_lohi (lo := 1) (hi := 4) rfl rfl rfl rfl (by decide) (by omega)) rfl ?_
          refine oC (Hc := []) (Hr := blk b2 40 zStC :: X) (dints_spec _ [w1, w2, w3] F2 (hv2.cut (lo := 1) (hi := 4) (by decide) (by omega)) (by simp)) Tryz.call16 rfl rfl (fun _ s => s) ?_
          rintro _ G1 _ hG1 ⟨rfl, vn, rfl, hrow⟩
          refine zQ ?_
          refine oS (ev_indexAddr (i := 4) rfl rfl rfl (by omega)) rfl ?_
          refine oS (ev_load rfl rfl (Rdb.ofF (hc4.mono hG1))) rfl ?_
          refine oC (Hc := []) (Hr := blk b2 40 zStC :: X) (dbytes_spec w4 G1 n4) Tryz.call45 rfl rfl (fun _ s => s) ?_
          rintro _ G2 _ hG2 ⟨rfl, vb, rfl, hvb⟩
          have hle9 := hle2.trans (hG1.trans hG2)
          have hvr := ((hv2.mono hG1).mono hG2).from (lo := 5) (by omega)
          obtain ⟨body, hbody⟩ : ∃ body, (bytesW w4).getD [] = body := ⟨_, rfl⟩
          rw [hbody] at hvb
          have hvb' : Byt G2 vb body := hvb
          obtain ⟨_, ba, bc, rfl, _, _⟩ := slice1 hvb'
          obtain ⟨ra, rc, hre, hrc, hrat⟩ := hvr.form
          have hrlen := hvr.2
          obtain ⟨okA, hokA⟩ : ∃ o, (allW numW [w1, w2, w3]).isSome = o := ⟨_, rfl⟩
          obtain ⟨okB, hokB⟩ : ∃ o, (bytesW w4).isSome = o := ⟨_, rfl⟩
          rw [hokA, hokB]
          obtain ⟨na, nc, rfl, hnc, hnat⟩ := hrow.at1
          obtain ⟨ns, hns⟩ : ∃ ns, (allW numW [w1, w2, w3]).getD [] = ns := ⟨_, rfl⟩
          rw [hns] at hrow hnc hnat ⊢
          refine zQ ?_
          refine oE (ev_alloc (cs := zStC) rfl) rfl ?_
          rintro _ _ _ _ ⟨rfl, b29, rfl, rfl⟩
          refine oN (ev_store (vs := (stC ⟨8, 0, 0, 0, zCo, [], 0, 0, 0, body, []⟩ nl (.slice ba body.length bc) nl)) rfl rfl .agg rfl rfl (lay_all (zs := zStC) rfl) (by unfold stC; (repeat (first | exact ones_nil | refine ones_cons rfl ?_))) .here) rfl ?_
          rintro _ _ _ _ ⟨rfl, _, rfl⟩
          refine zQ ?_
          refine oS (ev_slice_lo (lo := 5) rfl rfl rfl (by omega)) rfl ?_
          rw [hre]
          have hdr5 : (name :: w1 :: w2 :: w3 :: w4 :: rest).drop 5 = rest := rfl
          rw [hdr5] at *
          refine zQ ?_
          refine J_own_nil 58 32 ?_
          refine J_loop (ι := Nat × List W8 × Value × PH) (fun p => p.1 ≤ rest.length ∧ G2.le p.2.2.2 ∧ (∀ t ∈ p.2.1, t.length = 32) ∧ p.2.1.length = p.1 ∧ allW tagW rest = (allW tagW (rest.drop p.1)).map fun l => p.2.1 ++ l) (fun p => rest.length - p.1) (fun p => [(2, .pointer (some ⟨b2, 0, none⟩)), (25, .slice na ns.length nc), (26, .bool okA), (28, .bool okB), (29, .pointer (some ⟨b29, 0, none⟩)), (268, .slice ra rest.length rc), (269, .int .i64 rest.length), (270, .int .i64 p.1)]) (fun p => p.2.2.2)
            (fun p => own p.2.2.1 58 32 p.2.1.length (tagC p.2.1) :: blk b29 40 (stC ⟨8, 0, 0, 0, zCo, [], 0, 0, 0, body, []⟩ nl (.slice ba body.length bc) p.2.2.1) :: blk b2 40 zStC :: X) (0, [], .slice none 0 0, G2) ⟨Nat.zero_le _, PH.ler _, by simp, rfl, by simp⟩ ⟨⟨rfl, rfl, rfl, rfl, rfl, rfl, rfl, rfl, trivial⟩, fun w s => s⟩ ?_
          rintro ⟨i, l, u, G⟩ ⟨hi9, hG, hin, hll, hall⟩
          dsimp only at *
          have hleG := hle9.trans hG
          refine jWith .here (q := ∃ ua uc, u = .slice ua l.length uc) (fun h' hA => by obtain ⟨a, c, e, _⟩ := own_is hA; exact ⟨a, c, e⟩) fun ⟨ua, uc, hu⟩ => ?_
          subst hu
          by_cases hlt9 : i < rest.length
          · have hg : rest[i]? = some rest[i] := List.getElem?_eq_getElem hlt9
            have hdr : rest.drop i = rest[i] :: rest.drop (i + 1) := List.drop_eq_getElem_cons hlt9
            have hwl9 := hrlen rest[i] (List.getElem_mem hlt9)
            obtain ⟨rb, ro, rfl, hcc⟩ := hrat i rest[i] hg
            rw [hdr] at hall
            generalize rest[i] = w at *
            obtain ⟨hyes, hno9⟩ := allW_app hall
            refine zQ ?_
            refine oS (ev_indexAddr rfl rfl rfl hlt9) rfl ?_
            refine oS (ev_load rfl rfl (Rdb.ofF (hcc.mono hG))) rfl ?_
            refine zQ ?_
            refine oC (Hc := []) (Hr := _ :: _ :: _ :: X) (dbytes_spec w G hwl9) Tryz.call45 rfl rfl (fun _ s => s) ?_
            rintro _ G3 _ hG3 ⟨rfl, vt, rfl, hvt⟩
            have hle8 := hleG.trans hG3
            have hbad : tagW w = none → parseP (name :: w1 :: w2 :: w3 :: w4 :: rest) = none := fun e => by
              rw [hp, hno9 e]
              cases allW numW [w1, w2, w3] <;> cases bytesW w4 <;> rfl
            cases e : bytesW w with
            | none =>
              have hp9 := hbad (by unfold tagW; rw [e]; rfl)
              dsimp only [Option.isSome]
              refine zQ ?_
              refine oN (ev_store (vs := zStC) rfl rfl .agg rfl rfl (lay_all (zs := zStC) rfl) (by unfold zStC stC; (repeat (first | exact ones_nil | refine ones_cons rfl ?_))) (.there (.there .here))) rfl ?_
              rintro _ _ _ _ ⟨rfl, _, rfl⟩
              refine zQ ?_
              exact J_retv (vs := [.agg zStC.toArray, .bool false]) rfl (.agg rfl rfl (Rdb.ofB (n := 0) (.there (.there .here)) rfl) rfl (.tmp rfl .nil)) [] (fun w s => s.drop.drop.drop) hle8 ⟨rfl, zSt, nl, nl, nl, false, rfl, zSt_ok _, zLet, by rw [hp9]; exact ⟨rfl, rfl⟩⟩
            | some t9 =>
              rw [e] at hvt
              dsimp only [Option.isSome, Option.getD] at hvt ⊢
              have hvt' : Byt G3 vt t9 := hvt
              obtain ⟨_, ta, tc, rfl, htc, htat⟩ := slice1 hvt'
              by_cases h32 : t9.length = 32
              · have htg : tagW w = some t9 := by unfold tagW; rw [e, Option.bind_some, if_pos h32]
                have hy9 := hyes t9 htg
                refine zQ ?_
                refine oE (ev_alloc (cs := u8s ([] ++ z32)) rfl) rfl ?_
                rintro _ _ _ _ ⟨rfl, b34, rfl, rfl⟩
                refine zQ ?_
                refine J_loop (ι := Nat) (fun j => j ≤ 32) (fun j => 32 - j) (fun j => [(2, .pointer (some ⟨b2, 0, none⟩)), (25, .slice na ns.length nc), (26, .bool okA), (28, .bool okB), (29, .pointer (some ⟨b29, 0, none⟩)), (268, .slice (some ⟨rb, ro, none⟩) rest.length rc), (269, .int .i64 rest.length), (270, .int .i64 i), (34, .pointer (some ⟨b34, 0, none⟩)), (287, .slice ta t9.length tc), (288, .int .i64 t9.length), (289, .int .i64 j)]) (fun _ => G3)
                  (fun j => blk b34 58 (u8s (t9.take j ++ z32.drop j)) :: own (.slice ua l.length uc) 58 32 l.length (tagC l) :: blk b29 40 (stC ⟨8, 0, 0, 0, zCo, [], 0, 0, 0, body, []⟩ nl (.slice ba body.length bc) (.slice ua l.length uc)) :: blk b2 40 zStC :: X) 0 (Nat.zero_le _) ⟨⟨rfl, rfl, rfl, rfl, rfl, rfl, rfl, rfl, rfl, rfl, rfl, rfl, trivial⟩, fun w s => s⟩ ?_
                intro j hj
                by_cases hj2 : j < 32
                · obtain ⟨x, hx⟩ : ∃ x, t9[j]? = some x := ⟨_, List.getElem?_eq_getElem (by omega)⟩
                  obtain ⟨tb, to9, rfl, hxc⟩ := htat j x hx
                  refine zQ ?_
                  refine oS (ev_indexAddr rfl rfl rfl (by omega)) rfl ?_
                  refine oS (ev_load rfl rfl (Rdb.ofF hxc)) rfl ?_
                  refine zQ ?_
                  refine oS (ev_indexAddr_arr (i := j) rfl rfl rfl hj2) rfl ?_
                  refine oN (ev_store rfl rfl .int rfl rfl (lay_tag h32 hx) (ones_cons rfl ones_nil) .here) rfl ?_
                  rintro _ _ _ _ ⟨rfl, _, rfl⟩
                  refine zQ ?_
                  exact J_again (j + 1) (by omega) (by omega) ⟨⟨rfl, rfl, rfl, rfl, rfl, rfl, rfl, rfl, rfl, rfl, rfl, rfl, trivial⟩, fun w s => s⟩
                · obtain rfl : j = 32 := by omega
                  rw [List.take_of_length_le (by omega), show z32.drop 32 = [] from rfl, List.append_nil]
                  have hul : (u8s t9).length = 32 := by rw [u8s_len]; exact h32
                  refine zQ ?_
                  refine oS (ev_load_agg (cs := u8s t9) rfl rfl (Rdb.ofB (n := 0) .here (by rw [List.drop_zero, List.take_length])) hul) rfl ?_
                  refine oA (n := l.length) (xs := tagC l) (size := 32) (bytes := 32) (vs := u8s t9) (K := fun v' => blk b34 58 (u8s t9) :: own v' 58 32 (l.length + 1) (tagC l ++ u8s t9) :: blk b29 40 (stC ⟨8, 0, 0, 0, zCo, [], 0, 0, 0, body, []⟩ nl (.slice ba body.length bc) (.slice ua l.length uc)) :: blk b2 40 zStC :: X) (fun _ => rfl) rfl .agg hul elTag (u8s_ones _) (by omega) (fun v' => .there .here) rfl (fun _ => rfl) fun u2 w2 => ?_
                  refine oWith (.there .here) (q := ∃ ua uc, u2 = .slice ua (l.length + 1) uc) (fun h' hA => by obtain ⟨a, c, e, _⟩ := own_is hA; exact ⟨a, c, e⟩) fun ⟨u2a, u2c, hu2⟩ => ?_
                  subst hu2
                  refine zQ ?_
                  refine oN (ev_store rfl rfl .slice rfl rfl (.skip (.skip (.skip (.skip (.skip (.skip (.skip (.skip (.skip (.skip (.skip (.skip (.skip (.skip (.skip (.skip (.put .nil))))))))))))))))) (ones_cons rfl ones_nil) (.there (.there .here))) rfl ?_
                  rintro _ _ _ _ ⟨rfl, _, rfl⟩
                  refine zQ ?_
                  refine J_again (ι := Nat × List W8 × Value × PH) (i + 1, l ++ [t9], .slice u2a (l.length + 1) u2c, G3) ⟨hlt9, hG.trans hG3, ?_, by simp [hll], hy9⟩ (by dsimp only; omega) ⟨⟨rfl, rfl, rfl, rfl, rfl, rfl, rfl, rfl, trivial⟩, fun w s => ?_⟩
                  · intro t2 h2
                    rcases List.mem_append.1 h2 with h2 | h2
                    · exact hin t2 h2
                    · simp at h2; subst h2; exact h32
                  · dsimp only
                    rw [tagC_snoc, List.length_append, List.length_singleton]
                    exact s.drop
              · have hp9 := hbad (by unfold tagW; rw [e, Option.bind_some, if_neg h32])
                refine zQ ?_
                refine oN (ev_store (vs := zStC) rfl rfl .agg rfl rfl (lay_all (zs := zStC) rfl) (by unfold zStC stC; (repeat (first | exact ones_nil | refine ones_cons rfl ?_))) (.there (.there .here))) rfl ?_
                rintro _ _ _ _ ⟨rfl, _, rfl⟩
                refine zQ ?_
                exact J_retv (vs := [.agg zStC.toArray, .bool false]) rfl (.agg rfl rfl (Rdb.ofB (n := 0) (.there (.there .here)) rfl) rfl (.tmp rfl .nil)) [] (fun w s => s.drop.drop.drop) hle8 ⟨rfl, zSt, nl, nl, nl, false, rfl, zSt_ok _, zLet, by rw [hp9]; exact ⟨rfl, rfl⟩⟩
          · obtain rfl : i = rest.length := by omega
            rw [List.drop_length] at hall
            refine J_persist fun hh hA hd => ?_
            have htrow : TagRow (G.un hh) (.slice ua l.length uc) l := ⟨own_slice hA hd, hin⟩
            have hG4 := PH.le_l G hh
            generalize G.un hh = G4 at *
            have hle8 := hleG.trans hG4
            simp only [allW, Option.map_some, List.append_nil] at hall
            rw [hall] at hp
            cases okA with
            | false =>
              have hp9 : parseP (name :: w1 :: w2 :: w3 :: w4 :: rest) = none := by
                rw [hp, Option.isSome_eq_false_iff.1 hokA |> Option.isNone_iff_eq_none.1]; rfl
              refine zQ ?_
              refine oN (ev_store (vs := zStC) rfl rfl .agg rfl rfl (lay_all (zs := zStC) rfl) (by unfold zStC stC; (repeat (first | exact ones_nil | refine ones_cons rfl ?_))) (.there .here)) rfl ?_
              rintro _ _ _ _ ⟨rfl, _, rfl⟩
              refine zQ ?_
              exact J_retv (vs := [.agg zStC.toArray, .bool false]) rfl (.agg rfl rfl (Rdb.ofB (n := 0) (.there .here) rfl) rfl (.tmp rfl .nil)) [] (fun w s => s.drop.drop) hle8 ⟨rfl, zSt, nl, nl, nl, false, rfl, zSt_ok _, zLet, by rw [hp9]; exact ⟨rfl, rfl⟩⟩
            | true =>
              obtain ⟨l1, e1⟩ := Option.isSome_iff_exists.1 hokA
              rw [e1] at hns hp
              obtain rfl : l1 = ns := hns
              cases okB with
              | false =>
                have hp9 : parseP (name :: w1 :: w2 :: w3 :: w4 :: rest) = none := by
                  rw [hp, Option.isSome_eq_false_iff.1 hokB |> Option.isNone_iff_eq_none.1]; rfl
                refine zQ ?_
                refine oN (ev_store (vs := zStC) rfl rfl .agg rfl rfl (lay_all (zs := zStC) rfl) (by unfold zStC stC; (repeat (first | exact ones_nil | refine ones_cons rfl ?_))) (.there .here)) rfl ?_
                rintro _ _ _ _ ⟨rfl, _, rfl⟩
                refine zQ ?_
                exact J_retv (vs := [.agg zStC.toArray, .bool false]) rfl (.agg rfl rfl (Rdb.ofB (n := 0) (.there .here) rfl) rfl (.tmp rfl .nil)) [] (fun w s => s.drop.drop) hle8 ⟨rfl, zSt, nl, nl, nl, false, rfl, zSt_ok _, zLet, by rw [hp9]; exact ⟨rfl, rfl⟩⟩
              | true =>
                obtain ⟨bd, e2⟩ := Option.isSome_iff_exists.1 hokB
                rw [e2] at hbody hp
                obtain rfl : bd = body := hbody
                obtain ⟨n1, n2, n3, rfl⟩ := list3 (allW_len e1)
                obtain ⟨nb, no, rfl, hx0⟩ := hnat 0 n1 rfl
                obtain ⟨_, _, e, hx1⟩ := hnat 1 n2 rfl
                cases e
                obtain ⟨_, _, e, hx2⟩ := hnat 2 n3 rfl
                cases e
                replace hx0 := ((hx0.mono hG2).mono hG).mono hG4
                replace hx1 := ((hx1.mono hG2).mono hG).mono hG4
                replace hx2 := ((hx2.mono hG2).mono hG).mono hG4
                have i1 := hrow.2 n1 (by simp)
                have i2 := hrow.2 n2 (by simp)
                have i3 := hrow.2 n3 (by simp)
                have hn1 : ([n1, n2, n3] : List Int).length = 3 := rfl
                have hp' : parseP (name :: w1 :: w2 :: w3 :: w4 :: rest) = some ⟨8, 0, n1, 0, zCo, [], 0, n2, n3, bd, l⟩ := hp
                have hvb4 := (SliceV.mono (SliceV.mono hvb' hG) hG4)
                refine zQ ?_
                refine ja G4 [] ?_ ?_ ?_; kernel_rfl
                · exact fun w s => s.bare
                refine aT 0 rfl (ev_qe rfl) rfl rfl ?_ ?_ ?_ ?_; kernel_rfl; kernel_rfl; kernel_rfl
                refine aT 1 rfl (ev_indexAddr (i := 0) rfl rfl rfl (by omega)) rfl rfl ?_ ?_ ?_ ?_; kernel_rfl; kernel_rfl; kernel_rfl
                refine aT 2 rfl (ev_load rfl rfl (Rdb.ofF hx0)) rfl rfl ?_ ?_ ?_ ?_; kernel_rfl; kernel_rfl; kernel_rfl
                refine aT 3 rfl (ev_qe rfl) rfl rfl ?_ ?_ ?_ ?_; kernel_rfl; kernel_rfl; kernel_rfl
                refine aT 4 rfl (ev_indexAddr (i := 1) rfl rfl rfl (by omega)) rfl rfl ?_ ?_ ?_ ?_; kernel_rfl; kernel_rfl; kernel_rfl
                refine aT 5 rfl (ev_load rfl rfl (Rdb.ofF hx1)) rfl rfl ?_ ?_ ?_ ?_; kernel_rfl; kernel_rfl; kernel_rfl
                refine aT 6 rfl (ev_qe rfl) rfl rfl ?_ ?_ ?_ ?_; kernel_rfl; kernel_rfl; kernel_rfl
                refine aT 7 rfl (ev_indexAddr (i := 2) rfl rfl rfl (by omega)) rfl rfl ?_ ?_ ?_ ?_; kernel_rfl; kernel_rfl; kernel_rfl
                refine aT 8 rfl (ev_load rfl rfl (Rdb.ofF hx2)) rfl rfl ?_ ?_ ?_ ?_; kernel_rfl; kernel_rfl; kernel_rfl
                refine aT 9 rfl (ev_qe rfl) rfl rfl ?_ ?_ ?_ ?_; kernel_rfl; kernel_rfl; kernel_rfl
                refine aB (i := 10) (by kernel_rfl) (aN rfl (ev_store rfl rfl .int rfl rfl (.skip (.skip (.put .nil))) (ones_cons rfl ones_nil) .here) rfl (fun _ _ _ _ hq w s => by obtain ⟨e, _⟩ := hq; subst e; exact s.bare) ?_)
                rintro _ _ _ _ ⟨rfl, _, rfl⟩
                refine aT 11 rfl (ev_qe rfl) rfl rfl ?_ ?_ ?_ ?_; kernel_rfl; kernel_rfl; kernel_rfl
                refine aT 12 rfl (ev_qe rfl) rfl rfl ?_ ?_ ?_ ?_; kernel_rfl; kernel_rfl; kernel_rfl
                refine aB (i := 13) (by kernel_rfl) (aN rfl (ev_store rfl rfl .int rfl rfl (.skip (.skip (.skip (.skip (.skip (.skip (.skip (.skip (.skip (.skip (.skip (.skip (.skip (.put .nil)))))))))))))) (ones_cons rfl ones_nil) .here) rfl (fun _ _ _ _ hq w s => by obtain ⟨e, _⟩ := hq; subst e; exact s.bare) ?_)
                rintro _ _ _ _ ⟨rfl, _, rfl⟩
                refine aT 14 rfl (ev_qe rfl) rfl rfl ?_ ?_ ?_ ?_; kernel_rfl; kernel_rfl; kernel_rfl
                refine aT 15 rfl (ev_qe rfl) rfl rfl ?_ ?_ ?_ ?_; kernel_rfl; kernel_rfl; kernel_rfl
                refine aB (i := 16) (by kernel_rfl) (aN rfl (ev_store rfl rfl .int rfl rfl (.skip (.skip (.skip (.skip (.skip (.skip (.skip (.skip (.skip (.skip (.skip (.skip (.skip (.skip (.put .nil))))))))))))))) (ones_cons rfl ones_nil) .here) rfl (fun _ _ _ _ hq w s => by obtain ⟨e, _⟩ := hq; subst e; exact s.bare) ?_)
                rintro _ _ _ _ ⟨rfl, _, rfl⟩
                refine aD (by kernel_rfl) ?_
                refine zQ ?_
                show JM _ _ _ _ _ _ _ (blk b29 40 (stC ⟨8, 0, n1, 0, zCo, [], 0, n2, n3, bd, l⟩ nl (.slice ba bd.length bc) (.slice ua l.length uc)) :: blk b2 40 zStC :: X)
                refine oS (ev_load_agg (cs := stC ⟨8, 0, n1, 0, zCo, [], 0, n2, n3, bd, l⟩ nl (.slice ba bd.length bc) (.slice ua l.length uc)) rfl rfl (Rdb.ofB (n := 0) .here rfl) rfl) rfl ?_
                refine oN (ev_store (vs := stC ⟨8, 0, n1, 0, zCo, [], 0, n2, n3, bd, l⟩ nl (.slice ba bd.length bc) (.slice ua l.length uc)) rfl rfl .agg rfl rfl (lay_all (zs := zStC) rfl) (by unfold stC; (repeat (first | exact ones_nil | refine ones_cons rfl ?_))) (.there .here)) rfl ?_
                rintro _ _ _ _ ⟨rfl, _, rfl⟩
                refine zQ ?_
                exact J_retv (vs := [.agg (stC ⟨8, 0, n1, 0, zCo, [], 0, n2, n3, bd, l⟩ nl (.slice ba bd.length bc) (.slice ua l.length uc)).toArray, .bool true]) rfl (.agg rfl rfl (Rdb.ofB (n := 0) (.there .here) rfl) rfl (.tmp rfl .nil)) [] (fun w s => s.drop.drop) hle8 ⟨rfl, ⟨8, 0, n1, 0, zCo, [], 0, n2, n3, bd, l⟩, nl, _, _, true, rfl, ⟨inI8, inI0, i1, inI0, zCo_in, NumRow.nil _, Int.le_refl 0, by show (0 : Int) ≤ 4294967295; decide, i2, i3, hvb4, htrow⟩, by show ([] : W8).length ≤ 2000000; simp, by rw [hp']; exact ⟨rfl, rfl⟩⟩
        · rw [forge_short (by omega)] at hp
          refine zQ ?_
          refine oS (ev_indexAddr (i := 0) rfl rfl rfl (by omega)) rfl ?_
          refine oS (ev_load rfl rfl (Rdb.ofF hc0')) rfl ?_
          refine zQ ?_
          refine oS (ev_seql (bs := name) (cs := wAsk) (r := false) rfl rfl (by rw [h3]; decide)) rfl ?_
          refine zQ ?_
          refine oS (ev_indexAddr (i := 0) rfl rfl rfl (by omega)) rfl ?_
          refine oS (ev_load rfl rfl (Rdb.ofF hc0')) rfl ?_
          refine zQ ?_
          refine oS (ev_seql (bs := name) (cs := wRequest) (r := false) rfl rfl (by rw [h3]; decide)) rfl ?_
          refine zQ ?_
          refine oS (ev_indexAddr (i := 0) rfl rfl rfl (by omega)) rfl ?_
          refine oS (ev_load rfl rfl (Rdb.ofF hc0')) rfl ?_
          refine zQ ?_
          refine oS (ev_seql (bs := name) (cs := wLie) (r := false) rfl rfl (by rw [h3]; decide)) rfl ?_
          refine zQ ?_
          refine oS (ev_indexAddr (i := 0) rfl rfl rfl (by omega)) rfl ?_
          refine oS (ev_load rfl rfl (Rdb.ofF hc0')) rfl ?_
          refine zQ ?_
          refine oS (ev_seql (bs := name) (cs := wForge) (r := true) rfl rfl (by rw [h3]; decide)) rfl ?_
          refine zQ ?_
          refine oN (ev_store (vs := zStC) rfl rfl .agg rfl rfl (lay_all (zs := zStC) rfl) (by unfold zStC stC; (repeat (first | exact ones_nil | refine ones_cons rfl ?_))) .here) rfl ?_
          rintro _ _ _ _ ⟨rfl, _, rfl⟩
          refine zQ ?_
          exact J_retv (vs := [.agg zStC.toArray, .bool false]) rfl (.agg rfl rfl (Rdb.ofB (n := 0) .here rfl) rfl (.tmp rfl .nil)) [] (fun w s => s.drop) hle2 ⟨rfl, zSt, nl, nl, nl, false, rfl, zSt_ok _, zLet, by rw [hp]; exact ⟨rfl, rfl⟩⟩
      rw [if_neg h3] at hp
      refine zQ ?_
      refine oS (ev_indexAddr (i := 0) rfl rfl rfl (by omega)) rfl ?_
      refine oS (ev_load rfl rfl (Rdb.ofF hc0')) rfl ?_
      refine zQ ?_
      refine oS (ev_seql (bs := name) (cs := wAsk) (r := false) rfl rfl (by simp [h0])) rfl ?_
      refine zQ ?_
      refine oS (ev_indexAddr (i := 0) rfl rfl rfl (by omega)) rfl ?_
      refine oS (ev_load rfl rfl (Rdb.ofF hc0')) rfl ?_
      refine zQ ?_
      refine oS (ev_seql (bs := name) (cs := wRequest) (r := false) rfl rfl (by simp [h1])) rfl ?_
      refine zQ ?_
      refine oS (ev_indexAddr (i := 0) rfl rfl rfl (by omega)) rfl ?_
      refine oS (ev_load rfl rfl (Rdb.ofF hc0')) rfl ?_
      refine zQ ?_
      refine oS (ev_seql (bs := name) (cs := wLie) (r := false) rfl rfl (by simp [h2])) rfl ?_
      refine zQ ?_
      refine oS (ev_indexAddr (i := 0) rfl rfl rfl (by omega)) rfl ?_
      refine oS (ev_load rfl rfl (Rdb.ofF hc0')) rfl ?_
      refine zQ ?_
      refine oS (ev_seql (bs := name) (cs := wForge) (r := false) rfl rfl (by simp [h3])) rfl ?_
      refine zQ ?_
      refine oN (ev_store (vs := zStC) rfl rfl .agg rfl rfl (lay_all (zs := zStC) rfl) (by unfold zStC stC; (repeat (first | exact ones_nil | refine ones_cons rfl ?_))) .here) rfl ?_
      rintro _ _ _ _ ⟨rfl, _, rfl⟩
      refine zQ ?_
      exact J_retv (vs := [.agg zStC.toArray, .bool false]) rfl (.agg rfl rfl (Rdb.ofB (n := 0) .here rfl) rfl (.tmp rfl .nil)) [] (fun w s => s.drop) hle2 ⟨rfl, zSt, nl, nl, nl, false, rfl, zSt_ok _, zLet, by rw [hp]; exact ⟨rfl, rfl⟩⟩
end Go.Proofs.YtekdmpbkcjjllaaGreatDoor
