/-
  What was prepared, and what was proposed: given back; what is proposed. Conditions are typed with each.
-/
import Derived.Test.YtmicjjhkoicdnaaJl
namespace Go.Proofs.Ytmicjjhkoicdnaa
open Go.RowKit
set_option maxRecDepth 100000
theorem new_spec (F : PH) : Spec Try.prog 15 [] F [] fun u F' H' => F = F' ∧ ∃ b, u = .pointer (some ⟨b, 0, none⟩) ∧ H' = [blk b 66 [.slice none 0 0, .slice none 0 0], prO (.slice none 0 0) [], prO (.slice none 0 0) []] := by
  refine Spec.of0 Try.func15 rfl fun X w0 => ?_
  refine J_own_nil 43 3 ?_
  refine J_own_nil 43 3 ?_
  repeat (first|refine zJ rfl rfl ?_|refine jr rfl ?_|refine jn ?_|refine zM rfl rfl ?_|(refine zC rfl rfl ?_ rfl ?_;omega)|(refine zD rfl rfl ?_ rfl ?_;omega)|(refine zP rfl ?_ rfl ?_;omega)|refine zG rfl rfl rfl rfl ?_|(refine jdq rfl rfl ?_ ?_ ?_;kernel_rfl;kernel_rfl)|refine zB rfl rfl rfl (by repeat constructor) rfl ?_|refine zH .here rfl rfl rfl rfl ?_|refine zH (.there .here) rfl rfl rfl rfl ?_|refine zH (.there (.there .here)) rfl rfl rfl rfl ?_)
  refine oE (ev_box rfl .agg) rfl ?_
  rintro _ _ _ _ ⟨rfl, b, rfl, rfl⟩
  repeat (first|refine zJ rfl rfl ?_|refine jr rfl ?_|refine jn ?_|refine zM rfl rfl ?_|(refine zC rfl rfl ?_ rfl ?_;omega)|(refine zD rfl rfl ?_ rfl ?_;omega)|(refine zP rfl ?_ rfl ?_;omega)|refine zG rfl rfl rfl rfl ?_|(refine jdq rfl rfl ?_ ?_ ?_;kernel_rfl;kernel_rfl)|refine zB rfl rfl rfl (by repeat constructor) rfl ?_|refine zH .here rfl rfl rfl rfl ?_|refine zH (.there .here) rfl rfl rfl rfl ?_|refine zH (.there (.there .here)) rfl rfl rfl rfl ?_)
  exact J_retv rfl (.tmp rfl .nil) [_, _, _] (fun w s => s) (PH.ler _) ⟨rfl, b, rfl, rfl⟩
theorem prepd_spec (b : Nat) (v1 v2 : Value) (L : List PV) (F : PH) (hn : L.length ≤ 900) (hL : ∀ y ∈ L, y.Ok F) : Spec Try.prog 24 [.pointer (some ⟨b, 0, none⟩)] F [blk b 66 [v1, v2], prO v1 L] fun u F' H' => ∃ L', H' = [blk b 66 [v1, v2], prO v1 L, prO u (isortL ltS L')] ∧ (∀ y ∈ L', y.Ok F') ∧ L'.map PV.key = L.map PV.key := by
  refine Spec.of1 Try.func24 rfl rfl fun X w0 => ?_
  dsimp only [List.cons_append, List.nil_append]
  repeat (first|refine zJ rfl rfl ?_|refine jr rfl ?_|refine jn ?_|refine zM rfl rfl ?_|(refine zC rfl rfl ?_ rfl ?_;omega)|(refine zD rfl rfl ?_ rfl ?_;omega)|(refine zP rfl ?_ rfl ?_;omega)|refine zG rfl rfl rfl rfl ?_|(refine jdq rfl rfl ?_ ?_ ?_;kernel_rfl;kernel_rfl)|refine zB rfl rfl rfl (by repeat constructor) rfl ?_|refine zH .here rfl rfl rfl rfl ?_|refine zH (.there .here) rfl rfl rfl rfl ?_|refine zH (.there (.there .here)) rfl rfl rfl rfl ?_)
  refine oC (Hc := [prO v1 L]) (Hr := blk b 66 [v1, v2] :: X) (sorted_spec v1 L F hn hL) Try.call37 rfl rfl (fun _ s => s.pm 2 [1, 0] rfl rfl) ?_
  rintro u F2 _ hF ⟨L', rfl, hok, hkey⟩
  repeat (first|refine zJ rfl rfl ?_|refine jr rfl ?_|refine jn ?_|refine zM rfl rfl ?_|(refine zC rfl rfl ?_ rfl ?_;omega)|(refine zD rfl rfl ?_ rfl ?_;omega)|(refine zP rfl ?_ rfl ?_;omega)|refine zG rfl rfl rfl rfl ?_|(refine jdq rfl rfl ?_ ?_ ?_;kernel_rfl;kernel_rfl)|refine zB rfl rfl rfl (by repeat constructor) rfl ?_|refine zH .here rfl rfl rfl rfl ?_|refine zH (.there .here) rfl rfl rfl rfl ?_|refine zH (.there (.there .here)) rfl rfl rfl rfl ?_)
  exact J_retv (vs := [u]) rfl (.tmp rfl .nil) [blk b 66 [v1, v2], prO v1 L, prO u (isortL ltS L')] (fun w s => s.pm 3 [2, 0, 1] rfl rfl) hF ⟨L', rfl, hok, hkey⟩
theorem propd_spec (b : Nat) (v1 v2 : Value) (L : List PV) (F : PH) (hn : L.length ≤ 900) (hL : ∀ y ∈ L, y.Ok F) : Spec Try.prog 17 [.pointer (some ⟨b, 0, none⟩)] F [blk b 66 [v1, v2], prO v2 L] fun u F' H' => ∃ L', H' = [blk b 66 [v1, v2], prO v2 L, prO u (isortL ltS L')] ∧ (∀ y ∈ L', y.Ok F') ∧ L'.map PV.key = L.map PV.key := by
  refine Spec.of1 Try.func17 rfl rfl fun X w0 => ?_
  dsimp only [List.cons_append, List.nil_append]
  repeat (first|refine zJ rfl rfl ?_|refine jr rfl ?_|refine jn ?_|refine zM rfl rfl ?_|(refine zC rfl rfl ?_ rfl ?_;omega)|(refine zD rfl rfl ?_ rfl ?_;omega)|(refine zP rfl ?_ rfl ?_;omega)|refine zG rfl rfl rfl rfl ?_|(refine jdq rfl rfl ?_ ?_ ?_;kernel_rfl;kernel_rfl)|refine zB rfl rfl rfl (by repeat constructor) rfl ?_|refine zH .here rfl rfl rfl rfl ?_|refine zH (.there .here) rfl rfl rfl rfl ?_|refine zH (.there (.there .here)) rfl rfl rfl rfl ?_)
  refine oC (Hc := [prO v2 L]) (Hr := blk b 66 [v1, v2] :: X) (sorted_spec v2 L F hn hL) Try.call37 rfl rfl (fun _ s => s.pm 2 [1, 0] rfl rfl) ?_
  rintro u F2 _ hF ⟨L', rfl, hok, hkey⟩
  repeat (first|refine zJ rfl rfl ?_|refine jr rfl ?_|refine jn ?_|refine zM rfl rfl ?_|(refine zC rfl rfl ?_ rfl ?_;omega)|(refine zD rfl rfl ?_ rfl ?_;omega)|(refine zP rfl ?_ rfl ?_;omega)|refine zG rfl rfl rfl rfl ?_|(refine jdq rfl rfl ?_ ?_ ?_;kernel_rfl;kernel_rfl)|refine zB rfl rfl rfl (by repeat constructor) rfl ?_|refine zH .here rfl rfl rfl rfl ?_|refine zH (.there .here) rfl rfl rfl rfl ?_|refine zH (.there (.there .here)) rfl rfl rfl rfl ?_)
  exact J_retv (vs := [u]) rfl (.tmp rfl .nil) [blk b 66 [v1, v2], prO v2 L, prO u (isortL ltS L')] (fun w s => s.pm 3 [2, 0, 1] rfl rfl) hF ⟨L', rfl, hok, hkey⟩
end Go.Proofs.Ytmicjjhkoicdnaa
