/-
  Cores: whether one may be, the program's and the document's. Conditions are typed with each.
-/
import Derived.Test.YtaggonhgafggkaaRa
namespace Go.Proofs.Ytaggonhgafggkaa
open Go.RowKit
set_option maxRecDepth 100000
structure Cr where
  client : Int
  stamp : Int
  op : Int
  letter : List UInt8
  a : Int
  b : Int
  text : List UInt8
def Cr.cells (c : Cr) : List Value := [.int .i64 c.client, .int .i64 c.stamp, .int .i64 c.op, .string (strOf c.letter), .int .i64 c.a, .int .i64 c.b, .string (strOf c.text)]
def zCr : List Value := [.int .i64 0, .int .i64 0, .int .i64 0, .string (strOf []), .int .i64 0, .int .i64 0, .string (strOf [])]
def Cr.zero : Cr := ⟨0, 0, 0, [], 0, 0, []⟩
theorem Cr.len (c : Cr) : c.cells.length = 7 := rfl
theorem Cr.ones (c : Cr) : Ones c.cells := by unfold Cr.cells; (repeat (first | exact ones_nil | refine ones_cons rfl ?_))
/-- Why a core may not be. -/
def Cr.err (c : Cr) (n : Int) : Int :=
  if n < 1 ∨ 7 < n then 1 else if c.client < n ∨ n + 4 ≤ c.client then 17 else if c.stamp < 1 ∨ 1099511627776 < c.stamp ∨ c.op < 1 ∨ 9 < c.op then 5 else if nameB c.letter = false then 7 else if 200 < c.text.length then 3 else 0
theorem Cr.err_is (c : Cr) {n e : Int} (h : (e = 1 ∧ (n < 1 ∨ 7 < n)) ∨ (¬ (n < 1 ∨ 7 < n) ∧ ((e = 17 ∧ (c.client < n ∨ n + 4 ≤ c.client)) ∨ (¬ (c.client < n ∨ n + 4 ≤ c.client) ∧ ((e = 5 ∧ (c.stamp < 1 ∨ 1099511627776 < c.stamp ∨ c.op < 1 ∨ 9 < c.op)) ∨
    (¬ (c.stamp < 1 ∨ 1099511627776 < c.stamp ∨ c.op < 1 ∨ 9 < c.op) ∧ ((e = 7 ∧ nameB c.letter = false) ∨ (nameB c.letter = true ∧ ((e = 3 ∧ 200 < c.text.length) ∨ (e = 0 ∧ ¬ 200 < c.text.length)))))))))) : c.err n = e := by
  unfold Cr.err
  rcases h with ⟨rfl, h⟩ | ⟨h, ⟨rfl, h1⟩ | ⟨h1, ⟨rfl, h2⟩ | ⟨h2, ⟨rfl, h3⟩ | ⟨h3, ⟨rfl, h4⟩ | ⟨rfl, h4⟩⟩⟩⟩⟩
  · rw [if_pos h]
  · rw [if_neg h, if_pos h1]
  · rw [if_neg h, if_neg h1, if_pos h2]
  · rw [if_neg h, if_neg h1, if_neg h2, if_pos h3]
  · rw [if_neg h, if_neg h1, if_neg h2, if_neg (by rw [h3]; decide), if_pos h4]
  · rw [if_neg h, if_neg h1, if_neg h2, if_neg (by rw [h3]; decide), if_neg h4]
theorem Cr.err_ok {c : Cr} {n : Int} (h : c.err n = 0) : 1 ≤ n ∧ n ≤ 7 ∧ n ≤ c.client ∧ c.client < n + 4 ∧ 1 ≤ c.stamp ∧ c.stamp ≤ 1099511627776 ∧ 1 ≤ c.op ∧ c.op ≤ 9 ∧ nameB c.letter = true ∧ c.text.length ≤ 200 := by
  unfold Cr.err at h
  split at h
  · cases h
  · split at h
    · cases h
    · split at h
      · cases h
      · split at h
        · cases h
        · split at h
          · cases h
          · rename_i h1 h2 h3 h4 h5
            exact ⟨by omega, by omega, by omega, by omega, by omega, by omega, by omega, by omega, by simpa using h4, by omega⟩
set_option maxHeartbeats 8000000 in
theorem check_spec (c : Cr) (n : Int) (F : PH) (hl : c.letter.length ≤ 1099511627776) (ht : c.text.length ≤ 1099511627776) : Pure Try.prog 32 [.agg c.cells.toArray, .int .i64 n] F (.int .i64 (c.err n)) := by
  have hsz := strOf_size c.text
  refine Spec.of2 Try.func32 rfl rfl fun X w0 => ?_
  refine jc rfl rfl ?_
  refine jr rfl ?_
  refine oE (ev_box rfl .agg) rfl ?_; rintro _ _ _ _ ⟨rfl, b, rfl, rfl⟩
  unfold Cr.cells
  by_cases g1 : n < 1
  · rw [c.err_is (e := 1) (.inl ⟨rfl, .inl g1⟩)]
    repeat (first|refine zJ rfl rfl ?_|refine jr rfl ?_|refine jn ?_|refine zM rfl rfl ?_|(refine zC rfl rfl ?_ rfl ?_;omega)|(refine zD rfl rfl ?_ rfl ?_;omega)|(refine zP rfl ?_ rfl ?_;omega)|refine zG rfl rfl rfl rfl ?_|(refine jdq rfl rfl ?_ ?_ ?_;kernel_rfl;kernel_rfl)|refine zB rfl rfl rfl (by repeat constructor) rfl ?_|refine zH .here rfl rfl rfl rfl ?_|refine zH (.there .here) rfl rfl rfl rfl ?_|refine zH (.there (.there .here)) rfl rfl rfl rfl ?_)
    exact J_retv rfl (.tmp rfl .nil) [] (fun w s => s.drop) (PH.ler _) ⟨rfl, rfl⟩
  by_cases g2 : 7 < n
  · rw [c.err_is (e := 1) (.inl ⟨rfl, .inr g2⟩)]
    repeat (first|refine zJ rfl rfl ?_|refine jr rfl ?_|refine jn ?_|refine zM rfl rfl ?_|(refine zC rfl rfl ?_ rfl ?_;omega)|(refine zD rfl rfl ?_ rfl ?_;omega)|(refine zP rfl ?_ rfl ?_;omega)|refine zG rfl rfl rfl rfl ?_|(refine jdq rfl rfl ?_ ?_ ?_;kernel_rfl;kernel_rfl)|refine zB rfl rfl rfl (by repeat constructor) rfl ?_|refine zH .here rfl rfl rfl rfl ?_|refine zH (.there .here) rfl rfl rfl rfl ?_|refine zH (.there (.there .here)) rfl rfl rfl rfl ?_)
    exact J_retv rfl (.tmp rfl .nil) [] (fun w s => s.drop) (PH.ler _) ⟨rfl, rfl⟩
  by_cases g3 : c.client < n
  · rw [c.err_is (e := 17) (.inr ⟨by omega, .inl ⟨rfl, .inl g3⟩⟩)]
    repeat (first|refine zJ rfl rfl ?_|refine jr rfl ?_|refine jn ?_|refine zM rfl rfl ?_|(refine zC rfl rfl ?_ rfl ?_;omega)|(refine zD rfl rfl ?_ rfl ?_;omega)|(refine zP rfl ?_ rfl ?_;omega)|refine zG rfl rfl rfl rfl ?_|(refine jdq rfl rfl ?_ ?_ ?_;kernel_rfl;kernel_rfl)|refine zB rfl rfl rfl (by repeat constructor) rfl ?_|refine zH .here rfl rfl rfl rfl ?_|refine zH (.there .here) rfl rfl rfl rfl ?_|refine zH (.there (.there .here)) rfl rfl rfl rfl ?_)
    exact J_retv rfl (.tmp rfl .nil) [] (fun w s => s.drop) (PH.ler _) ⟨rfl, rfl⟩
  by_cases g4 : n + 4 ≤ c.client
  · rw [c.err_is (e := 17) (.inr ⟨by omega, .inl ⟨rfl, .inr g4⟩⟩)]
    repeat (first|refine zJ rfl rfl ?_|refine jr rfl ?_|refine jn ?_|refine zM rfl rfl ?_|(refine zC rfl rfl ?_ rfl ?_;omega)|(refine zD rfl rfl ?_ rfl ?_;omega)|(refine zP rfl ?_ rfl ?_;omega)|refine zG rfl rfl rfl rfl ?_|(refine jdq rfl rfl ?_ ?_ ?_;kernel_rfl;kernel_rfl)|refine zB rfl rfl rfl (by repeat constructor) rfl ?_|refine zH .here rfl rfl rfl rfl ?_|refine zH (.there .here) rfl rfl rfl rfl ?_|refine zH (.there (.there .here)) rfl rfl rfl rfl ?_)
    exact J_retv rfl (.tmp rfl .nil) [] (fun w s => s.drop) (PH.ler _) ⟨rfl, rfl⟩
  by_cases g5 : c.stamp < 1
  · rw [c.err_is (e := 5) (.inr ⟨by omega, .inr ⟨by omega, .inl ⟨rfl, by omega⟩⟩⟩)]
    repeat (first|refine zJ rfl rfl ?_|refine jr rfl ?_|refine jn ?_|refine zM rfl rfl ?_|(refine zC rfl rfl ?_ rfl ?_;omega)|(refine zD rfl rfl ?_ rfl ?_;omega)|(refine zP rfl ?_ rfl ?_;omega)|refine zG rfl rfl rfl rfl ?_|(refine jdq rfl rfl ?_ ?_ ?_;kernel_rfl;kernel_rfl)|refine zB rfl rfl rfl (by repeat constructor) rfl ?_|refine zH .here rfl rfl rfl rfl ?_|refine zH (.there .here) rfl rfl rfl rfl ?_|refine zH (.there (.there .here)) rfl rfl rfl rfl ?_)
    exact J_retv rfl (.tmp rfl .nil) [] (fun w s => s.drop) (PH.ler _) ⟨rfl, rfl⟩
  by_cases g6 : 1099511627776 < c.stamp
  · rw [c.err_is (e := 5) (.inr ⟨by omega, .inr ⟨by omega, .inl ⟨rfl, by omega⟩⟩⟩)]
    repeat (first|refine zJ rfl rfl ?_|refine jr rfl ?_|refine jn ?_|refine zM rfl rfl ?_|(refine zC rfl rfl ?_ rfl ?_;omega)|(refine zD rfl rfl ?_ rfl ?_;omega)|(refine zP rfl ?_ rfl ?_;omega)|refine zG rfl rfl rfl rfl ?_|(refine jdq rfl rfl ?_ ?_ ?_;kernel_rfl;kernel_rfl)|refine zB rfl rfl rfl (by repeat constructor) rfl ?_|refine zH .here rfl rfl rfl rfl ?_|refine zH (.there .here) rfl rfl rfl rfl ?_|refine zH (.there (.there .here)) rfl rfl rfl rfl ?_)
    exact J_retv rfl (.tmp rfl .nil) [] (fun w s => s.drop) (PH.ler _) ⟨rfl, rfl⟩
  by_cases g7 : c.op < 1
  · rw [c.err_is (e := 5) (.inr ⟨by omega, .inr ⟨by omega, .inl ⟨rfl, by omega⟩⟩⟩)]
    repeat (first|refine zJ rfl rfl ?_|refine jr rfl ?_|refine jn ?_|refine zM rfl rfl ?_|(refine zC rfl rfl ?_ rfl ?_;omega)|(refine zD rfl rfl ?_ rfl ?_;omega)|(refine zP rfl ?_ rfl ?_;omega)|refine zG rfl rfl rfl rfl ?_|(refine jdq rfl rfl ?_ ?_ ?_;kernel_rfl;kernel_rfl)|refine zB rfl rfl rfl (by repeat constructor) rfl ?_|refine zH .here rfl rfl rfl rfl ?_|refine zH (.there .here) rfl rfl rfl rfl ?_|refine zH (.there (.there .here)) rfl rfl rfl rfl ?_)
    exact J_retv rfl (.tmp rfl .nil) [] (fun w s => s.drop) (PH.ler _) ⟨rfl, rfl⟩
  by_cases g8 : 9 < c.op
  · rw [c.err_is (e := 5) (.inr ⟨by omega, .inr ⟨by omega, .inl ⟨rfl, by omega⟩⟩⟩)]
    repeat (first|refine zJ rfl rfl ?_|refine jr rfl ?_|refine jn ?_|refine zM rfl rfl ?_|(refine zC rfl rfl ?_ rfl ?_;omega)|(refine zD rfl rfl ?_ rfl ?_;omega)|(refine zP rfl ?_ rfl ?_;omega)|refine zG rfl rfl rfl rfl ?_|(refine jdq rfl rfl ?_ ?_ ?_;kernel_rfl;kernel_rfl)|refine zB rfl rfl rfl (by repeat constructor) rfl ?_|refine zH .here rfl rfl rfl rfl ?_|refine zH (.there .here) rfl rfl rfl rfl ?_|refine zH (.there (.there .here)) rfl rfl rfl rfl ?_)
    exact J_retv rfl (.tmp rfl .nil) [] (fun w s => s.drop) (PH.ler _) ⟨rfl, rfl⟩
  have s1 := isName_spec c.letter hl F
  cases hb : nameB c.letter with
  | false =>
    rw [hb] at s1
    rw [c.err_is (e := 7) (.inr ⟨by omega, .inr ⟨by omega, .inr ⟨by omega, .inl ⟨rfl, hb⟩⟩⟩⟩)]
    repeat (first|refine zJ rfl rfl ?_|refine jr rfl ?_|refine jn ?_|refine zM rfl rfl ?_|(refine zC rfl rfl ?_ rfl ?_;omega)|(refine zD rfl rfl ?_ rfl ?_;omega)|(refine zP rfl ?_ rfl ?_;omega)|refine zG rfl rfl rfl rfl ?_|(refine jdq rfl rfl ?_ ?_ ?_;kernel_rfl;kernel_rfl)|refine zB rfl rfl rfl (by repeat constructor) rfl ?_|refine zH .here rfl rfl rfl rfl ?_|refine zH (.there .here) rfl rfl rfl rfl ?_|refine zH (.there (.there .here)) rfl rfl rfl rfl ?_)
    refine oP (s1) Try.call71 rfl rfl ?_
    repeat (first|refine zJ rfl rfl ?_|refine jr rfl ?_|refine jn ?_|refine zM rfl rfl ?_|(refine zC rfl rfl ?_ rfl ?_;omega)|(refine zD rfl rfl ?_ rfl ?_;omega)|(refine zP rfl ?_ rfl ?_;omega)|refine zG rfl rfl rfl rfl ?_|(refine jdq rfl rfl ?_ ?_ ?_;kernel_rfl;kernel_rfl)|refine zB rfl rfl rfl (by repeat constructor) rfl ?_|refine zH .here rfl rfl rfl rfl ?_|refine zH (.there .here) rfl rfl rfl rfl ?_|refine zH (.there (.there .here)) rfl rfl rfl rfl ?_)
    exact J_retv rfl (.tmp rfl .nil) [] (fun w s => s.drop) (PH.ler _) ⟨rfl, rfl⟩
  | true =>
    rw [hb] at s1
    by_cases g9 : 200 < c.text.length
    · rw [c.err_is (e := 3) (.inr ⟨by omega, .inr ⟨by omega, .inr ⟨by omega, .inr ⟨hb, .inl ⟨rfl, g9⟩⟩⟩⟩⟩)]
      repeat (first|refine zJ rfl rfl ?_|refine jr rfl ?_|refine jn ?_|refine zM rfl rfl ?_|(refine zC rfl rfl ?_ rfl ?_;omega)|(refine zD rfl rfl ?_ rfl ?_;omega)|(refine zP rfl ?_ rfl ?_;omega)|refine zG rfl rfl rfl rfl ?_|(refine jdq rfl rfl ?_ ?_ ?_;kernel_rfl;kernel_rfl)|refine zB rfl rfl rfl (by repeat constructor) rfl ?_|refine zH .here rfl rfl rfl rfl ?_|refine zH (.there .here) rfl rfl rfl rfl ?_|refine zH (.there (.there .here)) rfl rfl rfl rfl ?_)
      refine oP (s1) Try.call71 rfl rfl ?_
      repeat (first|refine zJ rfl rfl ?_|refine jr rfl ?_|refine jn ?_|refine zM rfl rfl ?_|(refine zC rfl rfl ?_ rfl ?_;omega)|(refine zD rfl rfl ?_ rfl ?_;omega)|(refine zP rfl ?_ rfl ?_;omega)|refine zG rfl rfl rfl rfl ?_|(refine jdq rfl rfl ?_ ?_ ?_;kernel_rfl;kernel_rfl)|refine zB rfl rfl rfl (by repeat constructor) rfl ?_|refine zH .here rfl rfl rfl rfl ?_|refine zH (.there .here) rfl rfl rfl rfl ?_|refine zH (.there (.there .here)) rfl rfl rfl rfl ?_)
      exact J_retv rfl (.tmp rfl .nil) [] (fun w s => s.drop) (PH.ler _) ⟨rfl, rfl⟩
    · rw [c.err_is (e := 0) (.inr ⟨by omega, .inr ⟨by omega, .inr ⟨by omega, .inr ⟨hb, .inr ⟨rfl, by omega⟩⟩⟩⟩⟩)]
      repeat (first|refine zJ rfl rfl ?_|refine jr rfl ?_|refine jn ?_|refine zM rfl rfl ?_|(refine zC rfl rfl ?_ rfl ?_;omega)|(refine zD rfl rfl ?_ rfl ?_;omega)|(refine zP rfl ?_ rfl ?_;omega)|refine zG rfl rfl rfl rfl ?_|(refine jdq rfl rfl ?_ ?_ ?_;kernel_rfl;kernel_rfl)|refine zB rfl rfl rfl (by repeat constructor) rfl ?_|refine zH .here rfl rfl rfl rfl ?_|refine zH (.there .here) rfl rfl rfl rfl ?_|refine zH (.there (.there .here)) rfl rfl rfl rfl ?_)
      refine oP (s1) Try.call71 rfl rfl ?_
      repeat (first|refine zJ rfl rfl ?_|refine jr rfl ?_|refine jn ?_|refine zM rfl rfl ?_|(refine zC rfl rfl ?_ rfl ?_;omega)|(refine zD rfl rfl ?_ rfl ?_;omega)|(refine zP rfl ?_ rfl ?_;omega)|refine zG rfl rfl rfl rfl ?_|(refine jdq rfl rfl ?_ ?_ ?_;kernel_rfl;kernel_rfl)|refine zB rfl rfl rfl (by repeat constructor) rfl ?_|refine zH .here rfl rfl rfl rfl ?_|refine zH (.there .here) rfl rfl rfl rfl ?_|refine zH (.there (.there .here)) rfl rfl rfl rfl ?_)
      exact J_retv rfl (.tmp rfl .nil) [] (fun w s => s.drop) (PH.ler _) ⟨rfl, rfl⟩
set_option maxHeartbeats 8000000 in
theorem Check_spec (c : Cr) (n : Int) (F : PH) (hl : c.letter.length ≤ 1099511627776) (ht : c.text.length ≤ 1099511627776) : Pure Try.prog 33 [.agg c.cells.toArray, .int .i64 n] F (.int .i64 (c.err n)) := by
  have hsz := strOf_size c.text
  refine Spec.of2 Try.func33 rfl rfl fun X w0 => ?_
  refine jc rfl rfl ?_
  refine jr rfl ?_
  refine oE (ev_box rfl .agg) rfl ?_; rintro _ _ _ _ ⟨rfl, b, rfl, rfl⟩
  unfold Cr.cells
  by_cases g1 : n < 1
  · rw [c.err_is (e := 1) (.inl ⟨rfl, .inl g1⟩)]
    repeat (first|refine zJ rfl rfl ?_|refine jr rfl ?_|refine jn ?_|refine zM rfl rfl ?_|(refine zC rfl rfl ?_ rfl ?_;omega)|(refine zD rfl rfl ?_ rfl ?_;omega)|(refine zP rfl ?_ rfl ?_;omega)|refine zG rfl rfl rfl rfl ?_|(refine jdq rfl rfl ?_ ?_ ?_;kernel_rfl;kernel_rfl)|refine zB rfl rfl rfl (by repeat constructor) rfl ?_|refine zH .here rfl rfl rfl rfl ?_|refine zH (.there .here) rfl rfl rfl rfl ?_|refine zH (.there (.there .here)) rfl rfl rfl rfl ?_)
    exact J_retv rfl (.tmp rfl .nil) [] (fun w s => s.drop) (PH.ler _) ⟨rfl, rfl⟩
  by_cases g2 : 7 < n
  · rw [c.err_is (e := 1) (.inl ⟨rfl, .inr g2⟩)]
    repeat (first|refine zJ rfl rfl ?_|refine jr rfl ?_|refine jn ?_|refine zM rfl rfl ?_|(refine zC rfl rfl ?_ rfl ?_;omega)|(refine zD rfl rfl ?_ rfl ?_;omega)|(refine zP rfl ?_ rfl ?_;omega)|refine zG rfl rfl rfl rfl ?_|(refine jdq rfl rfl ?_ ?_ ?_;kernel_rfl;kernel_rfl)|refine zB rfl rfl rfl (by repeat constructor) rfl ?_|refine zH .here rfl rfl rfl rfl ?_|refine zH (.there .here) rfl rfl rfl rfl ?_|refine zH (.there (.there .here)) rfl rfl rfl rfl ?_)
    exact J_retv rfl (.tmp rfl .nil) [] (fun w s => s.drop) (PH.ler _) ⟨rfl, rfl⟩
  by_cases g3 : c.client < n
  · rw [c.err_is (e := 17) (.inr ⟨by omega, .inl ⟨rfl, .inl g3⟩⟩)]
    repeat (first|refine zJ rfl rfl ?_|refine jr rfl ?_|refine jn ?_|refine zM rfl rfl ?_|(refine zC rfl rfl ?_ rfl ?_;omega)|(refine zD rfl rfl ?_ rfl ?_;omega)|(refine zP rfl ?_ rfl ?_;omega)|refine zG rfl rfl rfl rfl ?_|(refine jdq rfl rfl ?_ ?_ ?_;kernel_rfl;kernel_rfl)|refine zB rfl rfl rfl (by repeat constructor) rfl ?_|refine zH .here rfl rfl rfl rfl ?_|refine zH (.there .here) rfl rfl rfl rfl ?_|refine zH (.there (.there .here)) rfl rfl rfl rfl ?_)
    exact J_retv rfl (.tmp rfl .nil) [] (fun w s => s.drop) (PH.ler _) ⟨rfl, rfl⟩
  by_cases g4 : n + 4 ≤ c.client
  · rw [c.err_is (e := 17) (.inr ⟨by omega, .inl ⟨rfl, .inr g4⟩⟩)]
    repeat (first|refine zJ rfl rfl ?_|refine jr rfl ?_|refine jn ?_|refine zM rfl rfl ?_|(refine zC rfl rfl ?_ rfl ?_;omega)|(refine zD rfl rfl ?_ rfl ?_;omega)|(refine zP rfl ?_ rfl ?_;omega)|refine zG rfl rfl rfl rfl ?_|(refine jdq rfl rfl ?_ ?_ ?_;kernel_rfl;kernel_rfl)|refine zB rfl rfl rfl (by repeat constructor) rfl ?_|refine zH .here rfl rfl rfl rfl ?_|refine zH (.there .here) rfl rfl rfl rfl ?_|refine zH (.there (.there .here)) rfl rfl rfl rfl ?_)
    exact J_retv rfl (.tmp rfl .nil) [] (fun w s => s.drop) (PH.ler _) ⟨rfl, rfl⟩
  by_cases g5 : c.stamp < 1
  · rw [c.err_is (e := 5) (.inr ⟨by omega, .inr ⟨by omega, .inl ⟨rfl, by omega⟩⟩⟩)]
    repeat (first|refine zJ rfl rfl ?_|refine jr rfl ?_|refine jn ?_|refine zM rfl rfl ?_|(refine zC rfl rfl ?_ rfl ?_;omega)|(refine zD rfl rfl ?_ rfl ?_;omega)|(refine zP rfl ?_ rfl ?_;omega)|refine zG rfl rfl rfl rfl ?_|(refine jdq rfl rfl ?_ ?_ ?_;kernel_rfl;kernel_rfl)|refine zB rfl rfl rfl (by repeat constructor) rfl ?_|refine zH .here rfl rfl rfl rfl ?_|refine zH (.there .here) rfl rfl rfl rfl ?_|refine zH (.there (.there .here)) rfl rfl rfl rfl ?_)
    exact J_retv rfl (.tmp rfl .nil) [] (fun w s => s.drop) (PH.ler _) ⟨rfl, rfl⟩
  by_cases g6 : 1099511627776 < c.stamp
  · rw [c.err_is (e := 5) (.inr ⟨by omega, .inr ⟨by omega, .inl ⟨rfl, by omega⟩⟩⟩)]
    repeat (first|refine zJ rfl rfl ?_|refine jr rfl ?_|refine jn ?_|refine zM rfl rfl ?_|(refine zC rfl rfl ?_ rfl ?_;omega)|(refine zD rfl rfl ?_ rfl ?_;omega)|(refine zP rfl ?_ rfl ?_;omega)|refine zG rfl rfl rfl rfl ?_|(refine jdq rfl rfl ?_ ?_ ?_;kernel_rfl;kernel_rfl)|refine zB rfl rfl rfl (by repeat constructor) rfl ?_|refine zH .here rfl rfl rfl rfl ?_|refine zH (.there .here) rfl rfl rfl rfl ?_|refine zH (.there (.there .here)) rfl rfl rfl rfl ?_)
    exact J_retv rfl (.tmp rfl .nil) [] (fun w s => s.drop) (PH.ler _) ⟨rfl, rfl⟩
  by_cases g7 : c.op < 1
  · rw [c.err_is (e := 5) (.inr ⟨by omega, .inr ⟨by omega, .inl ⟨rfl, by omega⟩⟩⟩)]
    repeat (first|refine zJ rfl rfl ?_|refine jr rfl ?_|refine jn ?_|refine zM rfl rfl ?_|(refine zC rfl rfl ?_ rfl ?_;omega)|(refine zD rfl rfl ?_ rfl ?_;omega)|(refine zP rfl ?_ rfl ?_;omega)|refine zG rfl rfl rfl rfl ?_|(refine jdq rfl rfl ?_ ?_ ?_;kernel_rfl;kernel_rfl)|refine zB rfl rfl rfl (by repeat constructor) rfl ?_|refine zH .here rfl rfl rfl rfl ?_|refine zH (.there .here) rfl rfl rfl rfl ?_|refine zH (.there (.there .here)) rfl rfl rfl rfl ?_)
    exact J_retv rfl (.tmp rfl .nil) [] (fun w s => s.drop) (PH.ler _) ⟨rfl, rfl⟩
  by_cases g8 : 9 < c.op
  · rw [c.err_is (e := 5) (.inr ⟨by omega, .inr ⟨by omega, .inl ⟨rfl, by omega⟩⟩⟩)]
    repeat (first|refine zJ rfl rfl ?_|refine jr rfl ?_|refine jn ?_|refine zM rfl rfl ?_|(refine zC rfl rfl ?_ rfl ?_;omega)|(refine zD rfl rfl ?_ rfl ?_;omega)|(refine zP rfl ?_ rfl ?_;omega)|refine zG rfl rfl rfl rfl ?_|(refine jdq rfl rfl ?_ ?_ ?_;kernel_rfl;kernel_rfl)|refine zB rfl rfl rfl (by repeat constructor) rfl ?_|refine zH .here rfl rfl rfl rfl ?_|refine zH (.there .here) rfl rfl rfl rfl ?_|refine zH (.there (.there .here)) rfl rfl rfl rfl ?_)
    exact J_retv rfl (.tmp rfl .nil) [] (fun w s => s.drop) (PH.ler _) ⟨rfl, rfl⟩
  have s1 := IsName_spec c.letter hl F
  cases hb : nameB c.letter with
  | false =>
    rw [hb] at s1
    rw [c.err_is (e := 7) (.inr ⟨by omega, .inr ⟨by omega, .inr ⟨by omega, .inl ⟨rfl, hb⟩⟩⟩⟩)]
    repeat (first|refine zJ rfl rfl ?_|refine jr rfl ?_|refine jn ?_|refine zM rfl rfl ?_|(refine zC rfl rfl ?_ rfl ?_;omega)|(refine zD rfl rfl ?_ rfl ?_;omega)|(refine zP rfl ?_ rfl ?_;omega)|refine zG rfl rfl rfl rfl ?_|(refine jdq rfl rfl ?_ ?_ ?_;kernel_rfl;kernel_rfl)|refine zB rfl rfl rfl (by repeat constructor) rfl ?_|refine zH .here rfl rfl rfl rfl ?_|refine zH (.there .here) rfl rfl rfl rfl ?_|refine zH (.there (.there .here)) rfl rfl rfl rfl ?_)
    refine oP (s1) Try.call72 rfl rfl ?_
    repeat (first|refine zJ rfl rfl ?_|refine jr rfl ?_|refine jn ?_|refine zM rfl rfl ?_|(refine zC rfl rfl ?_ rfl ?_;omega)|(refine zD rfl rfl ?_ rfl ?_;omega)|(refine zP rfl ?_ rfl ?_;omega)|refine zG rfl rfl rfl rfl ?_|(refine jdq rfl rfl ?_ ?_ ?_;kernel_rfl;kernel_rfl)|refine zB rfl rfl rfl (by repeat constructor) rfl ?_|refine zH .here rfl rfl rfl rfl ?_|refine zH (.there .here) rfl rfl rfl rfl ?_|refine zH (.there (.there .here)) rfl rfl rfl rfl ?_)
    exact J_retv rfl (.tmp rfl .nil) [] (fun w s => s.drop) (PH.ler _) ⟨rfl, rfl⟩
  | true =>
    rw [hb] at s1
    by_cases g9 : 200 < c.text.length
    · rw [c.err_is (e := 3) (.inr ⟨by omega, .inr ⟨by omega, .inr ⟨by omega, .inr ⟨hb, .inl ⟨rfl, g9⟩⟩⟩⟩⟩)]
      repeat (first|refine zJ rfl rfl ?_|refine jr rfl ?_|refine jn ?_|refine zM rfl rfl ?_|(refine zC rfl rfl ?_ rfl ?_;omega)|(refine zD rfl rfl ?_ rfl ?_;omega)|(refine zP rfl ?_ rfl ?_;omega)|refine zG rfl rfl rfl rfl ?_|(refine jdq rfl rfl ?_ ?_ ?_;kernel_rfl;kernel_rfl)|refine zB rfl rfl rfl (by repeat constructor) rfl ?_|refine zH .here rfl rfl rfl rfl ?_|refine zH (.there .here) rfl rfl rfl rfl ?_|refine zH (.there (.there .here)) rfl rfl rfl rfl ?_)
      refine oP (s1) Try.call72 rfl rfl ?_
      repeat (first|refine zJ rfl rfl ?_|refine jr rfl ?_|refine jn ?_|refine zM rfl rfl ?_|(refine zC rfl rfl ?_ rfl ?_;omega)|(refine zD rfl rfl ?_ rfl ?_;omega)|(refine zP rfl ?_ rfl ?_;omega)|refine zG rfl rfl rfl rfl ?_|(refine jdq rfl rfl ?_ ?_ ?_;kernel_rfl;kernel_rfl)|refine zB rfl rfl rfl (by repeat constructor) rfl ?_|refine zH .here rfl rfl rfl rfl ?_|refine zH (.there .here) rfl rfl rfl rfl ?_|refine zH (.there (.there .here)) rfl rfl rfl rfl ?_)
      exact J_retv rfl (.tmp rfl .nil) [] (fun w s => s.drop) (PH.ler _) ⟨rfl, rfl⟩
    · rw [c.err_is (e := 0) (.inr ⟨by omega, .inr ⟨by omega, .inr ⟨by omega, .inr ⟨hb, .inr ⟨rfl, by omega⟩⟩⟩⟩⟩)]
      repeat (first|refine zJ rfl rfl ?_|refine jr rfl ?_|refine jn ?_|refine zM rfl rfl ?_|(refine zC rfl rfl ?_ rfl ?_;omega)|(refine zD rfl rfl ?_ rfl ?_;omega)|(refine zP rfl ?_ rfl ?_;omega)|refine zG rfl rfl rfl rfl ?_|(refine jdq rfl rfl ?_ ?_ ?_;kernel_rfl;kernel_rfl)|refine zB rfl rfl rfl (by repeat constructor) rfl ?_|refine zH .here rfl rfl rfl rfl ?_|refine zH (.there .here) rfl rfl rfl rfl ?_|refine zH (.there (.there .here)) rfl rfl rfl rfl ?_)
      refine oP (s1) Try.call72 rfl rfl ?_
      repeat (first|refine zJ rfl rfl ?_|refine jr rfl ?_|refine jn ?_|refine zM rfl rfl ?_|(refine zC rfl rfl ?_ rfl ?_;omega)|(refine zD rfl rfl ?_ rfl ?_;omega)|(refine zP rfl ?_ rfl ?_;omega)|refine zG rfl rfl rfl rfl ?_|(refine jdq rfl rfl ?_ ?_ ?_;kernel_rfl;kernel_rfl)|refine zB rfl rfl rfl (by repeat constructor) rfl ?_|refine zH .here rfl rfl rfl rfl ?_|refine zH (.there .here) rfl rfl rfl rfl ?_|refine zH (.there (.there .here)) rfl rfl rfl rfl ?_)
      exact J_retv rfl (.tmp rfl .nil) [] (fun w s => s.drop) (PH.ler _) ⟨rfl, rfl⟩
end Go.Proofs.Ytaggonhgafggkaa
