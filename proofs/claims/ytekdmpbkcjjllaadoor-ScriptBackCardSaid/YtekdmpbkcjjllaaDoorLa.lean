/-
  Texts gone through rune by rune: the iterator as the call's own. Plain theorems over any program; no condition.
-/
import Derived.Test.YtekdmpbkcjjllaaDoorKo
import Derived.Test.YtekdmpbkcjjllaaDoorKr
import Derived.Lib.OthersKept
import Derived.Laws.RangeString
namespace Go.Proofs.YtekdmpbkcjjllaaDoor
open Go.RowKit
def siter (b : Nat) (s : ByteArray) (pos : Nat) : Asrt := fun h => h = PH.one b (.stringIter s pos)
/-- Some object of the call's own, put anew. -/
theorem Sat.putObj {F : PH} {H H' : List Asrt} {w : World} {b : Nat} {o o' : Obj} (s : Sat F H w) (u : Upd (fun h => h = PH.one b o) (fun h => h = PH.one b o') H H') : w.heap[b]? = some o ∧ Sat F H' { w with heap := w.heap.setIfInBounds b o' } := by
  obtain ⟨h, R, hA, hd, hl, _, k⟩ := s.focus u
  have h1 : h = PH.one b o := hA
  subst h1
  have hb : w.heap[b]? = some o := hl b _ ((PH.le_r hd) b _ (PH.one_self _ _))
  have hlt : b < w.heap.size := (Array.getElem?_eq_some_iff.1 hb).1
  have hR : R b = none := by
    rcases hd b with e | e
    · exact e
    · rw [PH.one_self] at e; cases e
  refine ⟨hb, k _ _ rfl (PH.dj_one hR) (PH.un_le (fun c o e => ?_) (PH.one_le ?_))⟩
  · have hne : c ≠ b := fun ec => by subst ec; rw [hR] at e; cases e
    have := hl c o ((PH.le_l _ _) c o e)
    show (w.heap.setIfInBounds b o')[c]? = some o
    rw [Array.getElem?_setIfInBounds_ne (Ne.symm hne)]
    exact this
  · show (w.heap.setIfInBounds b o')[b]? = some o'
    rw [Array.getElem?_setIfInBounds_self_of_lt hlt]
theorem Mild.putObj (w : World) (b : Nat) (o : Obj) : Mild w { w with heap := w.heap.setIfInBounds b o } := ⟨rfl, rfl, rfl, by simp⟩
section
variable {P : Program} {l : Env} {F : PH} {H H' : List Asrt} {d : Option Nat} {T U : TypeId} {pos : String} {af : Array Edge} {g : Option (Nat × Bool)} {x : Operand}
theorem ev_range_str {s : ByteArray} (hx : opv l x = some (.string s)) (hu : P.underlying T = some .string) : Ev' P ⟨d, .range T x, U, pos, af, g⟩ l F H fun v F' H' => F = F' ∧ ∃ b, v = .pointer (some ⟨b, 0, none⟩) ∧ H' = siter b s 0 :: H := .of fun N a w ha hs => by
  have e1 := ha.opv hx
  refine ⟨.value (.pointer (some ⟨w.heap.size, 0, none⟩)), w.alloc (.stringIter s 0), _, F, siter w.heap.size s 0 :: H, ?_, .inl rfl, Mild.alloc w _, PH.ler F, ⟨rfl, _, rfl, rfl⟩, hs.alloc _ _ rfl⟩
  refine run_v (s := Instr.range T (a.eval x)) ?_
  rw [e1]
  exact run_range_string w T s hu
theorem ev_next_str {b p : Nat} {s : ByteArray} (hx : opv l x = some (.pointer (some ⟨b, 0, none⟩))) (hp : p < s.size) (hu : Upd (siter b s p) (siter b s (p + (Utf8.decode s p).2)) H H') :
    Ev' P ⟨d, .next x true, U, pos, af, g⟩ l F H fun v F' H'' => F = F' ∧ v = .tuple #[.bool true, .int .i64 p, .int .i32 (Utf8.decode s p).1] ∧ H'' = H' := .of fun N a w ha hs => by
  have e1 := ha.opv hx
  obtain ⟨hb, hs'⟩ := hs.putObj hu
  refine ⟨.value _, _, _, F, H', ?_, .inl rfl, Mild.putObj w b _, PH.ler F, ⟨rfl, rfl, rfl⟩, hs'⟩
  refine run_v (s := Instr.next (a.eval x) true U) ?_
  rw [e1, Lib.run_next_any_at w b s p U hb hp]
  rfl
theorem ev_next_end {b p : Nat} {s : ByteArray} {Hr : List Asrt} (hx : opv l x = some (.pointer (some ⟨b, 0, none⟩))) (hp : ¬ p < s.size) (hu : Pick (siter b s p) H Hr) :
    Ev P ⟨d, .next x true, U, pos, af, g⟩ l F H (.tuple #[.bool false]) := .of fun ρ hρ w hs => by
  have e1 := hρ _ _ hx
  have hb : w.heap[b]? = some (.stringIter s p) := by
    obtain ⟨_, ⟨h, r, hA, hr, hhr, rfl⟩, hd, hl⟩ := hs.pick hu
    have h1 : h = PH.one b (.stringIter s p) := hA
    subst h1
    exact hl b _ ((PH.le_r hd) b _ ((PH.le_l _ _) b _ (PH.one_self _ _)))
  refine run_v (s := Instr.next (ρ x) true U) ?_
  rw [e1]
  exact Lib.run_next_end_at w b s p U hb hp
end
/-- What isn't a byte below 128 is no rune below 128, and as wide as it may be. -/
theorem decode_high (s : ByteArray) (p : Nat) (hp : p < s.size) (h : 128 ≤ (s[p]'hp).toNat) : 128 ≤ (Utf8.decode s p).1 := by
  have hg : (s.get! (p + 0)).toNat = (s[p]'hp).toNat := by
    simp only [Nat.add_zero]
    congr 1
    show s.data[p]! = s.data[p]'hp
    exact getElem!_pos s.data p hp
  have h0 : ¬ (s.get! (p + 0)).toNat < 128 := by rw [hg]; omega
  unfold Utf8.decode
  dsimp only
  have e : Utf8.runeError = 65533 := rfl
  rw [if_neg h0]
  split
  · split
    · assumption
    · rw [e]; decide
  · split
    · split
      · rename_i hh; rw [Bool.and_eq_true, decide_eq_true_eq] at hh; have := hh.1; dsimp only; omega
      · rw [e]; decide
    · split
      · split
        · rename_i hh; rw [Bool.and_eq_true, decide_eq_true_eq] at hh; have := hh.1; dsimp only; omega
        · rw [e]; decide
      · rw [e]; decide
end Go.Proofs.YtekdmpbkcjjllaaDoor
