/-
  The calls whose answers the document fixes. Conditions are typed with each.
-/
import Derived.Test.YtmicjjhkoicdnaaJn
namespace Go.Proofs.Ytmicjjhkoicdnaa
open Go.RowKit
set_option maxRecDepth 100000
def pvC (s w : Int) : PV := ⟨s, w, none, 0, 0, []⟩
theorem pvC_ok {F : PH} {s w : Int} (h1 : InK .i64 s) (h2 : InK .i64 w) : (pvC s w).Ok F := ⟨h1, h2, RowB.nil, Nat.zero_le _⟩
set_option maxHeartbeats 4000000 in
theorem fixed_spec (F : PH) : Spec Try.prog 14 [] F [] fun u F' H' => u = .bool true ∧ H' = [] := by
  refine Spec.of0 Try.func14 rfl fun X w0 => ?_
  repeat (first|refine zJ rfl rfl ?_|refine jr rfl ?_|refine jn ?_|refine zM rfl rfl ?_|(refine zC rfl rfl ?_ rfl ?_;omega)|(refine zD rfl rfl ?_ rfl ?_;omega)|(refine zP rfl ?_ rfl ?_;omega)|refine zG rfl rfl rfl rfl ?_|(refine jdq rfl rfl ?_ ?_ ?_;kernel_rfl;kernel_rfl)|refine zB rfl rfl rfl (by repeat constructor) rfl ?_|refine zH .here rfl rfl rfl rfl ?_|refine zH (.there .here) rfl rfl rfl rfl ?_|refine zH (.there (.there .here)) rfl rfl rfl rfl ?_)
  refine oC (Hc := []) (Hr := X) (new_spec F) Try.call15 rfl rfl (fun _ s => s) ?_
  rintro _ _ _ _ ⟨rfl, b, rfl, rfl⟩
  repeat (first|refine zJ rfl rfl ?_|refine jr rfl ?_|refine jn ?_|refine zM rfl rfl ?_|(refine zC rfl rfl ?_ rfl ?_;omega)|(refine zD rfl rfl ?_ rfl ?_;omega)|(refine zP rfl ?_ rfl ?_;omega)|refine zG rfl rfl rfl rfl ?_|(refine jdq rfl rfl ?_ ?_ ?_;kernel_rfl;kernel_rfl)|refine zB rfl rfl rfl (by repeat constructor) rfl ?_|refine zH .here rfl rfl rfl rfl ?_|refine zH (.there .here) rfl rfl rfl rfl ?_|refine zH (.there (.there .here)) rfl rfl rfl rfl ?_)
  refine oC (Hc := [blk b 66 [.slice none 0 0, .slice none 0 0], prO (.slice none 0 0) []]) (Hr := prO (.slice none 0 0) [] :: X) (prep_spec b _ _ [] (pvC 3 1) F (by decide) (fun y h => absurd h (List.not_mem_nil)) (pvC_ok (by decide) (by decide))) Try.call18 rfl rfl (fun _ s => s) ?_
  rintro _ F1 _ hF1 ⟨v1, L1, rfl, hok1, hk1⟩
  have hk1 : L1.map PV.key = [(3, 1, [], ())] := hk1
  have hl1 : L1.length = 1 := by have := congrArg List.length hk1; simpa using this
  repeat (first|refine zJ rfl rfl ?_|refine jr rfl ?_|refine jn ?_|refine zM rfl rfl ?_|(refine zC rfl rfl ?_ rfl ?_;omega)|(refine zD rfl rfl ?_ rfl ?_;omega)|(refine zP rfl ?_ rfl ?_;omega)|refine zG rfl rfl rfl rfl ?_|(refine jdq rfl rfl ?_ ?_ ?_;kernel_rfl;kernel_rfl)|refine zB rfl rfl rfl (by repeat constructor) rfl ?_|refine zH .here rfl rfl rfl rfl ?_|refine zH (.there .here) rfl rfl rfl rfl ?_|refine zH (.there (.there .here)) rfl rfl rfl rfl ?_)
  refine oC (Hc := [blk b 66 [v1, .slice none 0 0], prO v1 L1]) (Hr := prO (.slice none 0 0) [] :: X) (prep_spec b _ _ L1 (pvC 3 0) F1 (by omega) hok1 (pvC_ok (by decide) (by decide))) Try.call18 rfl rfl (fun _ s => s) ?_
  rintro _ F2 _ hF2 ⟨v2, L2, rfl, hok2, hk2⟩
  rw [hk1] at hk2
  have hk2 : L2.map PV.key = [(3, 1, [], ())] := hk2
  have hl2 : L2.length = 1 := by have := congrArg List.length hk2; simpa using this
  repeat (first|refine zJ rfl rfl ?_|refine jr rfl ?_|refine jn ?_|refine zM rfl rfl ?_|(refine zC rfl rfl ?_ rfl ?_;omega)|(refine zD rfl rfl ?_ rfl ?_;omega)|(refine zP rfl ?_ rfl ?_;omega)|refine zG rfl rfl rfl rfl ?_|(refine jdq rfl rfl ?_ ?_ ?_;kernel_rfl;kernel_rfl)|refine zB rfl rfl rfl (by repeat constructor) rfl ?_|refine zH .here rfl rfl rfl rfl ?_|refine zH (.there .here) rfl rfl rfl rfl ?_|refine zH (.there (.there .here)) rfl rfl rfl rfl ?_)
  refine oC (Hc := [blk b 66 [v2, .slice none 0 0], prO (.slice none 0 0) []]) (Hr := prO v2 L2 :: X) (prop_spec b _ _ [] (pvC 5 0) F2 (by decide) (fun y h => absurd h (List.not_mem_nil)) (pvC_ok (by decide) (by decide))) Try.call16 rfl rfl (fun _ s => s.pm 3 [0, 2, 1] rfl rfl) ?_
  rintro _ F3 _ hF3 ⟨v3, L3, rfl, hok3, hk3⟩
  have hk3 : L3.map PV.key = [(5, 0, [], ())] := hk3
  have hl3 : L3.length = 1 := by have := congrArg List.length hk3; simpa using this
  repeat (first|refine zJ rfl rfl ?_|refine jr rfl ?_|refine jn ?_|refine zM rfl rfl ?_|(refine zC rfl rfl ?_ rfl ?_;omega)|(refine zD rfl rfl ?_ rfl ?_;omega)|(refine zP rfl ?_ rfl ?_;omega)|refine zG rfl rfl rfl rfl ?_|(refine jdq rfl rfl ?_ ?_ ?_;kernel_rfl;kernel_rfl)|refine zB rfl rfl rfl (by repeat constructor) rfl ?_|refine zH .here rfl rfl rfl rfl ?_|refine zH (.there .here) rfl rfl rfl rfl ?_|refine zH (.there (.there .here)) rfl rfl rfl rfl ?_)
  refine oC (Hc := [blk b 66 [v2, v3], prO v3 L3]) (Hr := prO v2 L2 :: X) (prop_spec b _ _ L3 (pvC 4 2) F3 (by omega) hok3 (pvC_ok (by decide) (by decide))) Try.call16 rfl rfl (fun _ s => s) ?_
  rintro _ F4 _ hF4 ⟨v4, L4, rfl, hok4, hk4⟩
  rw [hk3] at hk4
  have hk4 : L4.map PV.key = [(5, 0, [], ()), (4, 2, [], ())] := hk4
  have hl4 : L4.length = 2 := by have := congrArg List.length hk4; simpa using this
  repeat (first|refine zJ rfl rfl ?_|refine jr rfl ?_|refine jn ?_|refine zM rfl rfl ?_|(refine zC rfl rfl ?_ rfl ?_;omega)|(refine zD rfl rfl ?_ rfl ?_;omega)|(refine zP rfl ?_ rfl ?_;omega)|refine zG rfl rfl rfl rfl ?_|(refine jdq rfl rfl ?_ ?_ ?_;kernel_rfl;kernel_rfl)|refine zB rfl rfl rfl (by repeat constructor) rfl ?_|refine zH .here rfl rfl rfl rfl ?_|refine zH (.there .here) rfl rfl rfl rfl ?_|refine zH (.there (.there .here)) rfl rfl rfl rfl ?_)
  refine oC (Hc := [blk b 66 [v2, v4], prO v4 L4]) (Hr := prO v2 L2 :: X) (propd_spec b _ _ L4 F4 (by omega) hok4) Try.call17 rfl rfl (fun _ s => s) ?_
  rintro vl F5 _ hF5 ⟨L5, rfl, hok5, hk5⟩
  rw [hk4] at hk5
  have hs5 : ∃ x y, isortL ltS L5 = [x, y] ∧ x.s = 4 := by
    rcases L5 with _ | ⟨p, _ | ⟨q, _ | ⟨_, _⟩⟩⟩
    · cases hk5
    · have h := congrArg List.length hk5
      simp at h
    · have h := List.cons.inj hk5
      have h1 : p.s = 5 := congrArg Prod.fst h.1
      have h2 : q.s = 4 := congrArg Prod.fst (List.cons.inj h.2).1
      refine ⟨q, p, ?_, h2⟩
      show insL ltS q ([] ++ [p]) = [q, p]
      rw [insL_snoc, if_pos (by unfold ltS; simp [h1, h2])]
      rfl
    · have h := congrArg List.length hk5
      simp at h
  obtain ⟨x5, y5, he5, hx5⟩ := hs5
  rw [he5]
  have one : ∀ (M : List PV), M.map PV.key = [(3, 1, [], ())] → ∃ z, isortL ltS M = [z] ∧ z.w = 1 := by
    intro M hM
    rcases M with _ | ⟨p, _ | ⟨q, _⟩⟩
    · cases hM
    · exact ⟨p, rfl, congrArg (fun x => x.2.1) (List.cons.inj hM).1⟩
    · have h := congrArg List.length hM
      simp at h
  refine oOwnA (.there (.there .here)) fun al cl hvl hcl _ _ hal => ?_
  obtain ⟨gl, rfl⟩ := hal (by show 0 < 2; omega)
  subst hvl
  repeat (first|refine zJ rfl rfl ?_|refine jr rfl ?_|refine jn ?_|refine zM rfl rfl ?_|(refine zC rfl rfl ?_ rfl ?_;omega)|(refine zD rfl rfl ?_ rfl ?_;omega)|(refine zP rfl ?_ rfl ?_;omega)|refine zG rfl rfl rfl rfl ?_|(refine jdq rfl rfl ?_ ?_ ?_;kernel_rfl;kernel_rfl)|refine zB rfl rfl rfl (by repeat constructor) rfl ?_|refine zH .here rfl rfl rfl rfl ?_|refine zH (.there .here) rfl rfl rfl rfl ?_|refine zH (.there (.there .here)) rfl rfl rfl rfl ?_)
  refine oC (Hc := [blk b 66 [v2, v4], prO v2 L2]) (Hr := prO (.slice (some ⟨gl, 0, none⟩) 2 cl) [x5, y5] :: prO v4 L4 :: X) (prepd_spec b _ _ L2 F5 (by omega) (fun y hy => (hok2 y hy).mono (hF3.trans (hF4.trans hF5)))) Try.call24 rfl rfl (fun _ s => s.pm 4 [0, 3, 2, 1] rfl rfl) ?_
  rintro v6 F6 _ hF6 ⟨L6, rfl, hok6, hk6⟩
  rw [hk2] at hk6
  obtain ⟨z6, he6, hz6⟩ := one L6 hk6
  rw [he6]
  refine oOwnA (.there (.there .here)) fun a6 c6 hv6 hc6 _ _ ha6 => ?_
  obtain ⟨g6, rfl⟩ := ha6 (by show 0 < 1; omega)
  subst hv6
  repeat (first|refine zJ rfl rfl ?_|refine jr rfl ?_|refine jn ?_|refine zM rfl rfl ?_|(refine zC rfl rfl ?_ rfl ?_;omega)|(refine zD rfl rfl ?_ rfl ?_;omega)|(refine zP rfl ?_ rfl ?_;omega)|refine zG rfl rfl rfl rfl ?_|(refine jdq rfl rfl ?_ ?_ ?_;kernel_rfl;kernel_rfl)|refine zB rfl rfl rfl (by repeat constructor) rfl ?_|refine zH .here rfl rfl rfl rfl ?_|refine zH (.there .here) rfl rfl rfl rfl ?_|refine zH (.there (.there .here)) rfl rfl rfl rfl ?_)
  refine oC (Hc := [blk b 66 [v2, v4], prO v2 L2]) (Hr := prO (.slice (some ⟨g6, 0, none⟩) 1 c6) [z6] :: prO (.slice (some ⟨gl, 0, none⟩) 2 cl) [x5, y5] :: prO v4 L4 :: X) (prepd_spec b _ _ L2 F6 (by omega) (fun y hy => (hok2 y hy).mono (hF3.trans (hF4.trans (hF5.trans hF6))))) Try.call24 rfl rfl (fun _ s => s) ?_
  rintro v7 F7 _ hF7 ⟨L7, rfl, hok7, hk7⟩
  rw [hk2] at hk7
  obtain ⟨z7, he7, hz7⟩ := one L7 hk7
  rw [he7]
  refine oOwnA (.there (.there .here)) fun a7 c7 hv7 hc7 _ _ ha7 => ?_
  obtain ⟨g7, rfl⟩ := ha7 (by show 0 < 1; omega)
  subst hv7
  repeat (first|refine zJ rfl rfl ?_|refine jr rfl ?_|refine jn ?_|refine zM rfl rfl ?_|(refine zC rfl rfl ?_ rfl ?_;omega)|(refine zD rfl rfl ?_ rfl ?_;omega)|(refine zP rfl ?_ rfl ?_;omega)|refine zG rfl rfl rfl rfl ?_|(refine jdq rfl rfl ?_ ?_ ?_;kernel_rfl;kernel_rfl)|refine zB rfl rfl rfl (by repeat constructor) rfl ?_|refine zH .here rfl rfl rfl rfl ?_|refine zH (.there .here) rfl rfl rfl rfl ?_|refine zH (.there (.there .here)) rfl rfl rfl rfl ?_)
  refine oS (ev_indexAddr (n := 1) (i := 0) rfl rfl rfl (by omega)) rfl ?_
  refine oS (ev_fieldAddr rfl rfl) rfl ?_
  refine oS (ev_load (v := .int .i64 z7.w) rfl rfl ((rdb_row (L := [z7]) (j := 0) (.there (.there .here)) PV.len rfl).take 1 1)) rfl ?_
  rw [hz7]
  repeat (first|refine zJ rfl rfl ?_|refine jr rfl ?_|refine jn ?_|refine zM rfl rfl ?_|(refine zC rfl rfl ?_ rfl ?_;omega)|(refine zD rfl rfl ?_ rfl ?_;omega)|(refine zP rfl ?_ rfl ?_;omega)|refine zG rfl rfl rfl rfl ?_|(refine jdq rfl rfl ?_ ?_ ?_;kernel_rfl;kernel_rfl)|refine zB rfl rfl rfl (by repeat constructor) rfl ?_|refine zH .here rfl rfl rfl rfl ?_|refine zH (.there .here) rfl rfl rfl rfl ?_|refine zH (.there (.there .here)) rfl rfl rfl rfl ?_)
  refine oS (ev_indexAddr (n := 2) (i := 0) rfl rfl rfl (by omega)) rfl ?_
  refine oS (ev_fieldAddr rfl rfl) rfl ?_
  refine oS (ev_load (v := .int .i64 x5.s) rfl rfl ((rdb_row (L := [x5, y5]) (j := 0) (.there (.there (.there (.there .here)))) PV.len rfl).take 0 1)) rfl ?_
  rw [hx5]
  repeat (first|refine zJ rfl rfl ?_|refine jr rfl ?_|refine jn ?_|refine zM rfl rfl ?_|(refine zC rfl rfl ?_ rfl ?_;omega)|(refine zD rfl rfl ?_ rfl ?_;omega)|(refine zP rfl ?_ rfl ?_;omega)|refine zG rfl rfl rfl rfl ?_|(refine jdq rfl rfl ?_ ?_ ?_;kernel_rfl;kernel_rfl)|refine zB rfl rfl rfl (by repeat constructor) rfl ?_|refine zH .here rfl rfl rfl rfl ?_|refine zH (.there .here) rfl rfl rfl rfl ?_|refine zH (.there (.there .here)) rfl rfl rfl rfl ?_)
  exact J_retv rfl (.tmp rfl .nil) [] (fun w s => s.drop.drop.drop.drop.drop.drop) (hF1.trans (hF2.trans (hF3.trans (hF4.trans (hF5.trans (hF6.trans hF7)))))) ⟨rfl, rfl⟩
end Go.Proofs.Ytmicjjhkoicdnaa
