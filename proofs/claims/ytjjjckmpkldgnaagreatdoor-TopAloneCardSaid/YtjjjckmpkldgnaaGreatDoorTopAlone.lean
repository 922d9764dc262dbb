/-
  A replica alone ends, too (TopAlone). No condition beyond the row's own.
-/
import Derived.Test.YtjjjckmpkldgnaaGreatDoorUal
import Derived.Test.YtjjjckmpkldgnaaGreatDoorUao
import Derived.Test.YtjjjckmpkldgnaaGreatDoorUas
import Derived.Test.YtjjjckmpkldgnaaGreatDoorUat
import Derived.Test.YtjjjckmpkldgnaaGreatDoorLf
import Derived.Test.YtjjjckmpkldgnaaGreatDoorCards
import Derived.ProofKit
import Derived.LaidMore
import Derived.Lay
import Derived.OpenShut
import Derived.Stop.Joined
import Derived.Lib.LaidTab
namespace Go.Proofs.YtjjjckmpkldgnaaGreatDoor
open Go.RowKit
set_option maxRecDepth 100000
def tyTag : Ty Tryz.prog 222 (List UInt8) := tyArr Tryz.underlying222 Tryz.underlying5 (by kernel_rfl) (by kernel_rfl)
def tyTags : Ty Tryz.prog 29 (List (List UInt8)) := tySliceB tyTag Tryz.underlying29 (by kernel_rfl) (by decide)
def tyByt : Ty Tryz.prog 23 (List UInt8) := tyBytes Tryz.underlying23 Tryz.underlying5 (by kernel_rfl)
def tyI64 : Ty Tryz.prog 3 Int := tyInt Tryz.underlying3
abbrev MsgX := Int × Int × List UInt8 × List (List UInt8) × Unit
def tyMsg : Ty Tryz.prog 31 MsgX :=
  tyStruct Tryz.underlying31 (fsCons tyI64 (fsCons tyI64 (fsCons tyByt (fsCons tyTags (fsNil _) rfl (by kernel_rfl)) rfl (by kernel_rfl)) rfl (by kernel_rfl)) rfl (by kernel_rfl)) (by kernel_rfl)
theorem row_of {P : Program} {e : TypeId} {α β : Type} {te : Ty P e α} [r : Rp β] {F : PH} (hsz : te.sz = r.sz) (cv : ∀ x cs, te.rep F x cs → ∃ y, r.rep F y cs) {v : Value} {xs : List α} (h : RowV te F v xs) : ∃ ys : List β, Row F v ys := by
  obtain ⟨css, h1, h2⟩ := h
  have : ∃ ys : List β, ys.length = xs.length ∧ All2 (r.rep F) ys css := by
    clear h1
    induction h2 with
    | nil => exact ⟨[], rfl, .nil⟩
    | cons hx _ ih =>
      obtain ⟨ys, e, h⟩ := ih
      obtain ⟨y, hy⟩ := cv _ _ hx
      exact ⟨y :: ys, by simp [e], .cons hy h⟩
  obtain ⟨ys, e, h⟩ := this
  exact ⟨ys, css, by rw [← hsz, e]; exact h1, h⟩
theorem dg_of {F : PH} (x : List UInt8) (cs : List Value) (h : tyTag.rep F x cs) : ∃ y : Dg, Rp.rep F y cs := ⟨⟨x, h.2⟩, h.1⟩
theorem msg_of {F : PH} (x : MsgX) (cs : List Value) (h : tyMsg.rep F x cs) : ∃ y : Msg, Rp.rep F y cs := by
  obtain ⟨_, _, rfl, ⟨rfl, _⟩, _, _, rfl, ⟨rfl, _⟩, _, _, rfl, hb, _, _, rfl, ⟨vt, rfl, ht, hm⟩, rfl⟩ := h
  obtain ⟨vb, rfl, hb'⟩ := id hb
  have hb' : Byt F vb x.2.2.1 := hb'
  obtain ⟨_, a, c, rfl, _⟩ := id hb'
  obtain ⟨ds, hd⟩ := row_of (β := Dg) rfl dg_of ht
  exact ⟨⟨x.1, x.2.1, x.2.2.1, ds⟩, a, _, c, vt, rfl, hb', hd⟩
open Go.ChangeShapes Go.WideShapes Go.ChangeAt
theorem own_knob : ownKnob Tryz.prog.godebug = none := by kernel_rfl
theorem laid_out : laidOutB Tryz.prog = true := by kernel_rfl
def laidL : List (String × DataW Unit) := ("unicode/utf8.first", Rows.laid_unicode_utf8_first) :: laidT
theorem laid_met (os : Os) (args : Array Value) : laidMetH Tryz.prog laidL ((World.laidAll Tryz.prog os laidL).forCall (fun _ _ => 0) ⟨#[], args, []⟩).memory := by
  rw [MakeChecks.laidMetH_plain _ _ _ (by kernel_rfl)]
  exact laidMet_laidAll _ (by kernel_rfl) (by kernel_rfl)
set_option maxRecDepth 100000 in theorem TopAlone_lifted (os : Os) (started : os.Started) (H : Type) (enc : TypeId × Value → H) : ReturnsInHanded {} Tryz.checked os 3 .any (fun w args => (Rows.topAloneSpec.pre enc Tryz.prog Tryz.f3 [] false w args ∧ laidMetH Tryz.prog Rows.topAloneRow.laid w) ∧ sizedMet enc Tryz.prog Tryz.f3 (OpenSpec.ofChange Rows.topAloneSpec) false w args) (Rows.topAloneSpec.post enc Tryz.prog Tryz.f3 false true false false) := by 
  refine returnsInHanded_of_change_and (C := Tryz.checked) (X := fun w _ => laidMetH Tryz.prog Rows.topAloneRow.laid w) (fun _ _ _ hh h => h.of_heap hh) own_knob started (by kernel_rfl) Tryz.func3 (ChangeSpec.witness_shaped (enc := enc) (C := Tryz.checked) (os := os) (X := fun w _ => laidMetH Tryz.prog Rows.topAloneRow.laid w) false (World.laidAll Tryz.prog os laidL) #[.slice none 0 0, .slice none 0 0] 8 (World.laidAll_os _ _ _) (World.shaped_of_ZipB (by kernel_rfl) (by kernel_rfl)) (by kernel_rfl) (by kernel_rfl) (by kernel_rfl) (laid_met os _)) ?_; intro W base args ds gs before hval0 hW hcnd _ hL _; have hval : ∀ (j : Nat) t v, Tryz.f3.params[j]? = some t → args[j]? = some v → Value.okWide Tryz.prog W .any base t v := hval0; have hW' := hW; obtain ⟨p, q, hA0, hV, hp, hfz, hnd⟩ := hW; have hA : DataW.TrodAll enc Tryz.prog W 0 (fun _ => true) true Tryz.f3.params.toList args.toList ds p := hA0; obtain ⟨rfl, rfl⟩ := trodVars_none hV; rw [List.append_nil] at hp; have hA' := hA; rw [Tryz.params3] at hA hval
  obtain ⟨v0, vs0, d0, ds0, p0, q0, hargs, rfl, rfl, h0, r0⟩ := trodAll_cons hA; obtain ⟨v1, vs1, d1, ds1, p1, q1, rfl, rfl, rfl, h1, r1⟩ := trodAll_cons r0; obtain ⟨rfl, rfl, rfl⟩ := trodAll_nil r1; obtain rfl : args = #[v0, v1] := by cases args; simp_all
  obtain ⟨xs, hx⟩ := open_row tyMsg Tryz.underlying22 (by kernel_rfl) (by decide) (hval 0 22 v0 rfl rfl) h0
  obtain ⟨ax, cx, bs, rfl, hcx, hcm, hv⟩ := open_byt Tryz.underlying23 Tryz.underlying5 (by kernel_rfl) (hval 1 23 v1 rfl rfl) h1
  obtain ⟨ms, hms⟩ := row_of (β := Msg) rfl msg_of hx
  refine (law_walk (TopAlone_walk _ _ ms bs (ph W) hms hv)).mono fun e W' ⟨he, hb⟩ => ?_
  subst he
  exact ⟨_, rfl, law_post laid_out (by kernel_rfl) rfl rfl Tryz.underlying4 hW' hA' hp rfl hb⟩
theorem TopAlone_row : Rows.TopAloneSaid := OpenClaim.holds_of_wide 3 Tryz.f3 rfl rfl rfl rfl rfl rfl rfl ⟨rfl, rfl, rfl, rfl, rfl⟩ rfl rfl rfl rfl rfl aloneNamed Tryz.func3 aloneFacts (of_decide_eq_true (by as_aux_lemma => kernel_rfl)) (by unfold Func.isWrapper; first | (rw [if_pos (by decide +kernel)]; (as_aux_lemma => kernel_rfl)) | (rw [if_neg (by decide +kernel)]; exact ⟨rfl, rfl⟩)) (fun os started H enc _ => TopAlone_lifted os started H enc)
theorem TopAlone_holds : Rows.TopAloneCardSaid :=
  Claim7.holds_tied_plain_at .later [] [.pinned, .data, .sentinel, .sentinel, .data, .data, .data] true Rows.topAloneCard.stood.harness true
    TopAlone_row (fun _ h => by cases h) aloneText (fun _ h => by cases h) ownRowTie rfl ⟨rfl, rfl⟩ aloneMain rfl
    (fun f fn hf hfn => by
      obtain rfl : f = 3 := Option.some.inj (aloneNamed.symm.trans hf) |>.symm
      obtain rfl : fn = Tryz.f3 := (Option.some.inj (Tryz.func3.symm.trans hfn)).symm
      exact ⟨aloneLooks, fun j t ht => by
        rw [Tryz.params3] at ht
        have hm : t ∈ [22, 23] := by simpa using Array.mem_of_getElem? ht
        exact (show Tryz.pinned.checked.prog.wantsStandIn t = false by simpa using List.all_eq_true.1 aloneNoStand t hm)⟩)
    aloneGoes
#print axioms TopAlone_holds
end Go.Proofs.YtjjjckmpkldgnaaGreatDoor
