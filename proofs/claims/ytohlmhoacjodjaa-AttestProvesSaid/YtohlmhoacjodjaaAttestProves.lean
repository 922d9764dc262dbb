/-
  Each leaf is proved, by a book and by keys (AttestProves). No condition.
-/
import Derived.Test.YtohlmhoacjodjaaAk
import Derived.Test.YtohlmhoacjodjaaAu
namespace Go.Proofs.Ytohlmhoacjodjaa
open Go.RowKit
set_option maxRecDepth 100000
theorem fewB_true {l : List (List UInt8)} (h : fewB l = true) : (∀ x ∈ l, x.length ≤ 100) ∧ l.length ≤ 80 := of_decide_eq_true h
theorem own_path {C : Cry} (L : Law C) {T : C.σ} {l : List (List UInt8)} (hk : Knows C T l) (hr : C.room T ≤ 200) (hs : Small l) (h80 : l.length ≤ 80) {v : Value} {F : PH} {j : Nat} (hj : j < l.length) (h : RowV tyByt F v l) :
    Spec Try.prog 13 [C.v, v, .int .i64 j] F (C.A T) fun u F' H' => DgV F' u (downP C T l j).1.reverse ∧ H' = C.A T := by
  have e1 : (pathP C T l j).2 = T := down_knows L _ l T j (Nat.le_refl _) hk
  have sp1 := path_spec C l T v j F h hs (by omega) hj
  rw [e1] at sp1
  exact sp1
theorem leaf_proved {C : Cry} (L : Law C) {T : C.σ} {l : List (List UInt8)} (hk : Knows C T l) (hr : C.room T ≤ 200) (hs : Small l) (h80 : l.length ≤ 80) {x : List UInt8} {xv pv : Value} {F : PH} {j : Nat} (hj : l[j]? = some x) (hx : Byt F xv x) (hp : DgV F pv (downP C T l j).1.reverse) :
    Spec Try.prog 19 [C.v, .agg (u8s (rootP C T l).1).toArray, .int .i64 l.length, .int .i64 j, xv, pv] F (C.A T) fun u _ H' => u = .bool true ∧ H' = C.A T := by
  have hlt := (List.getElem?_eq_some_iff.1 hj).1
  have hg : l.getD j [] = x := by rw [List.getD_eq_getElem?_getD, hj]; rfl
  obtain ⟨c1, c2⟩ := chk_true L hlt hk
  have h32 : D32 (downP C T l j).1.reverse := fun d hd => downP_32 C _ T l j (Nat.le_refl _) d (List.mem_reverse.1 hd)
  have hpl : (downP C T l j).1.reverse.length ≤ l.length := by rw [List.length_reverse]; exact (downP_n C _ T l j (Nat.le_refl _)).1
  have sp := check_spec C T (rootP C T l).1 l.length j x (downP C T l j).1.reverse xv pv F (by omega) hlt (by omega) (hs x (List.mem_of_getElem? hj)) hx hp h32 (rootP_len _ _ _)
  rw [hg] at c1 c2
  rw [c1, c2] at sp
  exact sp
set_option maxHeartbeats 32000000 in
theorem AttestProves_walk (seed : List UInt8) (l : List (List UInt8)) (as_ a : Option Addr) (ks c : Nat) (F : PH) (hsv : Byt F (.slice as_ seed.length ks) seed) (h : RowV tyByt F (.slice a l.length c) l) (hm : l.length ≤ maxLen) : Spec Try.prog 6 [.slice as_ seed.length ks, .slice a l.length c] F [] fun u _ H' => u = .bool true ∧ H' = [] := by
  refine Spec.of2 Try.func6 rfl rfl fun X w0 => ?_
  repeat (first|refine zJ rfl rfl ?_|refine jr rfl ?_|refine jn ?_|refine zM rfl rfl ?_|(refine zC rfl rfl ?_ rfl ?_;omega)|(refine zD rfl rfl ?_ rfl ?_;omega)|(refine zP rfl ?_ rfl ?_;omega)|refine zG rfl rfl rfl rfl ?_|(refine jdq rfl rfl ?_ ?_ ?_;kernel_rfl;kernel_rfl)|refine zB rfl rfl rfl (by repeat constructor) rfl ?_|refine zH .here rfl rfl rfl rfl ?_|refine zH (.there .here) rfl rfl rfl rfl ?_|refine zH (.there (.there .here)) rfl rfl rfl rfl ?_)
  refine oC (Hc := []) (Hr := X) (fixed41 F) Try.call8 rfl rfl (fun _ s => s) ?_
  rintro _ F0 _ hF0 ⟨rfl, rfl⟩
  replace h := h.mono hF0
  replace hsv := SliceV.mono hsv hF0
  repeat (first|refine zJ rfl rfl ?_|refine jr rfl ?_|refine jn ?_|refine zM rfl rfl ?_|(refine zC rfl rfl ?_ rfl ?_;omega)|(refine zD rfl rfl ?_ rfl ?_;omega)|(refine zP rfl ?_ rfl ?_;omega)|refine zG rfl rfl rfl rfl ?_|(refine jdq rfl rfl ?_ ?_ ?_;kernel_rfl;kernel_rfl)|refine zB rfl rfl rfl (by repeat constructor) rfl ?_|refine zH .here rfl rfl rfl rfl ?_|refine zH (.there .here) rfl rfl rfl rfl ?_|refine zH (.there (.there .here)) rfl rfl rfl rfl ?_)
  refine oP (few_spec l _ F0 h hm) Try.call9 rfl rfl ?_
  cases hf : fewB l with
  | false =>
    repeat (first|refine zJ rfl rfl ?_|refine jr rfl ?_|refine jn ?_|refine zM rfl rfl ?_|(refine zC rfl rfl ?_ rfl ?_;omega)|(refine zD rfl rfl ?_ rfl ?_;omega)|(refine zP rfl ?_ rfl ?_;omega)|refine zG rfl rfl rfl rfl ?_|(refine jdq rfl rfl ?_ ?_ ?_;kernel_rfl;kernel_rfl)|refine zB rfl rfl rfl (by repeat constructor) rfl ?_|refine zH .here rfl rfl rfl rfl ?_|refine zH (.there .here) rfl rfl rfl rfl ?_|refine zH (.there (.there .here)) rfl rfl rfl rfl ?_)
    exact J_retv rfl (.tmp rfl .nil) [] (fun w s => s) hF0 ⟨rfl, rfl⟩
  | true =>
  obtain ⟨h100, h80⟩ := fewB_true hf
  have hs : Small l := fun x hx => by have := h100 x hx; omega
  by_cases g1 : 50 < seed.length
  · repeat (first|refine zJ rfl rfl ?_|refine jr rfl ?_|refine jn ?_|refine zM rfl rfl ?_|(refine zC rfl rfl ?_ rfl ?_;omega)|(refine zD rfl rfl ?_ rfl ?_;omega)|(refine zP rfl ?_ rfl ?_;omega)|refine zG rfl rfl rfl rfl ?_|(refine jdq rfl rfl ?_ ?_ ?_;kernel_rfl;kernel_rfl)|refine zB rfl rfl rfl (by repeat constructor) rfl ?_|refine zH .here rfl rfl rfl rfl ?_|refine zH (.there .here) rfl rfl rfl rfl ?_|refine zH (.there (.there .here)) rfl rfl rfl rfl ?_)
    exact J_retv rfl (.tmp rfl .nil) [] (fun w s => s) hF0 ⟨rfl, rfl⟩
  by_cases g2 : 20 < l.length
  · repeat (first|refine zJ rfl rfl ?_|refine jr rfl ?_|refine jn ?_|refine zM rfl rfl ?_|(refine zC rfl rfl ?_ rfl ?_;omega)|(refine zD rfl rfl ?_ rfl ?_;omega)|(refine zP rfl ?_ rfl ?_;omega)|refine zG rfl rfl rfl rfl ?_|(refine jdq rfl rfl ?_ ?_ ?_;kernel_rfl;kernel_rfl)|refine zB rfl rfl rfl (by repeat constructor) rfl ?_|refine zH .here rfl rfl rfl rfl ?_|refine zH (.there .here) rfl rfl rfl rfl ?_|refine zH (.there (.there .here)) rfl rfl rfl rfl ?_)
    exact J_retv rfl (.tmp rfl .nil) [] (fun w s => s) hF0 ⟨rfl, rfl⟩
  repeat (first|refine zJ rfl rfl ?_|refine jr rfl ?_|refine jn ?_|refine zM rfl rfl ?_|(refine zC rfl rfl ?_ rfl ?_;omega)|(refine zD rfl rfl ?_ rfl ?_;omega)|(refine zP rfl ?_ rfl ?_;omega)|refine zG rfl rfl rfl rfl ?_|(refine jdq rfl rfl ?_ ?_ ?_;kernel_rfl;kernel_rfl)|refine zB rfl rfl rfl (by repeat constructor) rfl ?_|refine zH .here rfl rfl rfl rfl ?_|refine zH (.there .here) rfl rfl rfl rfl ?_|refine zH (.there (.there .here)) rfl rfl rfl rfl ?_)
  refine oC (Hc := []) (Hr := X) (bnew_spec F0) Try.call18 rfl rfl (fun _ s => s) ?_
  rintro _ _ _ _ ⟨rfl, b, m, tg, rfl, rfl⟩
  repeat (first|refine zJ rfl rfl ?_|refine jr rfl ?_|refine jn ?_|refine zM rfl rfl ?_|(refine zC rfl rfl ?_ rfl ?_;omega)|(refine zD rfl rfl ?_ rfl ?_;omega)|(refine zP rfl ?_ rfl ?_;omega)|refine zG rfl rfl rfl rfl ?_|(refine jdq rfl rfl ?_ ?_ ?_;kernel_rfl;kernel_rfl)|refine zB rfl rfl rfl (by repeat constructor) rfl ?_|refine zH .here rfl rfl rfl rfl ?_|refine zH (.there .here) rfl rfl rfl rfl ?_|refine zH (.there (.there .here)) rfl rfl rfl rfl ?_)
  refine oC (Hc := []) (Hr := bookA b m tg [] ++ X) (knew_spec _ seed F0 (by omega) hsv) Try.call20 rfl rfl (fun _ s => s) ?_
  rintro _ F1 _ hF1 ⟨rfl, bk, rfl⟩
  replace h := h.mono hF1
  repeat (first|refine zJ rfl rfl ?_|refine jr rfl ?_|refine jn ?_|refine zM rfl rfl ?_|(refine zC rfl rfl ?_ rfl ?_;omega)|(refine zD rfl rfl ?_ rfl ?_;omega)|(refine zP rfl ?_ rfl ?_;omega)|refine zG rfl rfl rfl rfl ?_|(refine jdq rfl rfl ?_ ?_ ?_;kernel_rfl;kernel_rfl)|refine zB rfl rfl rfl (by repeat constructor) rfl ?_|refine zH .here rfl rfl rfl rfl ?_|refine zH (.there .here) rfl rfl rfl rfl ?_|refine zH (.there (.there .here)) rfl rfl rfl rfl ?_)
  refine oS (ev_makeInterface rfl (by kernel_rfl)) rfl ?_
  repeat (first|refine zJ rfl rfl ?_|refine jr rfl ?_|refine jn ?_|refine zM rfl rfl ?_|(refine zC rfl rfl ?_ rfl ?_;omega)|(refine zD rfl rfl ?_ rfl ?_;omega)|(refine zP rfl ?_ rfl ?_;omega)|refine zG rfl rfl rfl rfl ?_|(refine jdq rfl rfl ?_ ?_ ?_;kernel_rfl;kernel_rfl)|refine zB rfl rfl rfl (by repeat constructor) rfl ?_|refine zH .here rfl rfl rfl rfl ?_|refine zH (.there .here) rfl rfl rfl rfl ?_|refine zH (.there (.there .here)) rfl rfl rfl rfl ?_)
  refine oC (Hc := bookA b m tg []) (Hr := X) (root_spec (bookC b m tg) _ l [] _ F1 (Nat.le_refl _) h hs (by show 0 + 2 * l.length ≤ 80000; omega)) Try.call11 rfl rfl (fun _ s => s) ?_
  rintro _ F2 _ hF2 ⟨rfl, rfl⟩
  obtain ⟨hk, er⟩ := knows_of (bookL b m tg) (l := l) (s := ([] : List Hk)) (S := (rootP (bookC b m tg) [] l).2) ((bookL b m tg).refl _)
  have hroom := rootP_room (bookC b m tg) _ [] l (Nat.le_refl _)
  have hrm : (bookC b m tg).room (rootP (bookC b m tg) [] l).2 ≤ 200 := by
    have h0 : (bookC b m tg).room [] = 0 := rfl
    rw [h0] at hroom
    split at hroom <;> omega
  rw [← er]
  generalize (rootP (bookC b m tg) [] l).2 = T at *
  have hx8 : (u8s (rootP (bookC b m tg) T l).1).length = 32 := by rw [u8s_len, rootP_len]
  have hy8 : (u8s (rootP (keysC bk) () l).1).length = 32 := (u8s_len _).trans (rootP_len (keysC bk) () l)
  replace h := h.mono hF2
  repeat (first|refine zJ rfl rfl ?_|refine jr rfl ?_|refine jn ?_|refine zM rfl rfl ?_|(refine zC rfl rfl ?_ rfl ?_;omega)|(refine zD rfl rfl ?_ rfl ?_;omega)|(refine zP rfl ?_ rfl ?_;omega)|refine zG rfl rfl rfl rfl ?_|(refine jdq rfl rfl ?_ ?_ ?_;kernel_rfl;kernel_rfl)|refine zB rfl rfl rfl (by repeat constructor) rfl ?_|refine zH .here rfl rfl rfl rfl ?_|refine zH (.there .here) rfl rfl rfl rfl ?_|refine zH (.there (.there .here)) rfl rfl rfl rfl ?_)
  refine oS (ev_makeInterface rfl (by kernel_rfl)) rfl ?_
  repeat (first|refine zJ rfl rfl ?_|refine jr rfl ?_|refine jn ?_|refine zM rfl rfl ?_|(refine zC rfl rfl ?_ rfl ?_;omega)|(refine zD rfl rfl ?_ rfl ?_;omega)|(refine zP rfl ?_ rfl ?_;omega)|refine zG rfl rfl rfl rfl ?_|(refine jdq rfl rfl ?_ ?_ ?_;kernel_rfl;kernel_rfl)|refine zB rfl rfl rfl (by repeat constructor) rfl ?_|refine zH .here rfl rfl rfl rfl ?_|refine zH (.there .here) rfl rfl rfl rfl ?_|refine zH (.there (.there .here)) rfl rfl rfl rfl ?_)
  refine oC (Hc := []) (Hr := (bookC b m tg).A T ++ X) (root_spec (keysC bk) _ l () _ F2 (Nat.le_refl _) h hs (by show 0 + 2 * l.length ≤ 80000; omega)) Try.call11 rfl rfl (fun _ s => s) ?_
  rintro _ F3 _ hF3 ⟨rfl, rfl⟩
  replace h := h.mono hF3
  refine oW (H' := (bookC b m tg).A T ++ X) ?_ (fun w t => t)
  refine oE (ev_alloc (E := 28) (cs := u8s zd32) (by kernel_rfl)) rfl ?_
  rintro _ _ _ _ ⟨rfl, b7, rfl, rfl⟩
  refine oE (ev_alloc (E := 28) (cs := u8s zd32) (by kernel_rfl)) rfl ?_
  rintro _ _ _ _ ⟨rfl, b8, rfl, rfl⟩
  refine oN (ev_store (b := b7) (vs := u8s (rootP (bookC b m tg) T l).1) rfl rfl .agg rfl hx8 (lay_all (zs := u8s zd32) (by rw [hx8]; rfl)) (u8s_ones _) (.there .here)) rfl ?_
  rintro _ _ _ _ ⟨rfl, _, rfl⟩
  refine oN (ev_store (b := b8) (vs := u8s (rootP (keysC bk) () l).1) rfl rfl .agg rfl hy8 (lay_all (zs := u8s zd32) (by rw [hy8]; rfl)) (u8s_ones _) .here) rfl ?_
  rintro _ _ _ _ ⟨rfl, _, rfl⟩
  repeat (first|refine zJ rfl rfl ?_|refine jr rfl ?_|refine jn ?_|refine zM rfl rfl ?_|(refine zC rfl rfl ?_ rfl ?_;omega)|(refine zD rfl rfl ?_ rfl ?_;omega)|(refine zP rfl ?_ rfl ?_;omega)|refine zG rfl rfl rfl rfl ?_|(refine jdq rfl rfl ?_ ?_ ?_;kernel_rfl;kernel_rfl)|refine zB rfl rfl rfl (by repeat constructor) rfl ?_|refine zH .here rfl rfl rfl rfl ?_|refine zH (.there .here) rfl rfl rfl rfl ?_|refine zH (.there (.there .here)) rfl rfl rfl rfl ?_)
  refine J_persist fun hh hA hd => ?_
  have c8 := blk_cells hA hd
  have hF4 := PH.le_l F3 hh
  generalize F3.un hh = F4 at *
  refine J_persist fun hh hA hd => ?_
  have c7 := blk_cells hA hd
  have hF5 := PH.le_l F4 hh
  replace c8 := c8.mono hF5
  generalize F4.un hh = F5 at *
  replace h := h.mono (hF4.trans hF5)
  have hFF := hF0.trans (hF1.trans (hF2.trans (hF3.trans (hF4.trans hF5))))
  refine J_loop2 (fun (j : Nat) (G : PH) => j ≤ l.length ∧ F5.le G) (fun j _ => l.length - j) (fun j _ => [(1, .slice a l.length c), (5, .pointer (some ⟨b, 0, none⟩)), (6, .pointer (some ⟨bk, 0, none⟩)), (7, .pointer (some ⟨b7, 0, none⟩)), (8, .pointer (some ⟨b8, 0, none⟩)), (37, .int .i64 l.length), (38, .int .i64 j)]) (fun _ G => G) (fun _ _ => (bookC b m tg).A T ++ X) 0 F5 ⟨Nat.zero_le _, PH.ler _⟩ ⟨⟨rfl, rfl, rfl, rfl, rfl, rfl, rfl, trivial⟩, fun _ s => s⟩ ?_
  rintro j G ⟨hj, hG⟩
  by_cases hlt : j < l.length
  · have hg : l[j]? = some l[j] := List.getElem?_eq_getElem hlt
    have h2 := h.mono hG
    obtain ⟨bx, ox, cs, rfl, hcs, ⟨vx, rfl, hxv⟩, _⟩ := h2.at hg
    generalize l[j] = x at *
    replace c7 := c7.mono hG
    replace c8 := c8.mono hG
    repeat (first|refine zJ rfl rfl ?_|refine jr rfl ?_|refine jn ?_|refine zM rfl rfl ?_|(refine zC rfl rfl ?_ rfl ?_;omega)|(refine zD rfl rfl ?_ rfl ?_;omega)|(refine zP rfl ?_ rfl ?_;omega)|refine zG rfl rfl rfl rfl ?_|(refine jdq rfl rfl ?_ ?_ ?_;kernel_rfl;kernel_rfl)|refine zB rfl rfl rfl (by repeat constructor) rfl ?_|refine zH .here rfl rfl rfl rfl ?_|refine zH (.there .here) rfl rfl rfl rfl ?_|refine zH (.there (.there .here)) rfl rfl rfl rfl ?_)
    refine ja G [] ?_ (fun w t => t.bare) ?_; kernel_rfl
    refine aT 0 rfl (ev_qe rfl) rfl rfl ?_ ?_ ?_ ?_; kernel_rfl; kernel_rfl; kernel_rfl
    refine aT 1 rfl (ev_makeInterface rfl (by kernel_rfl)) rfl rfl ?_ ?_ ?_ ?_; kernel_rfl; kernel_rfl; kernel_rfl
    refine aT 2 rfl (ev_load_agg (cs := u8s (rootP (bookC b m tg) T l).1) rfl rfl (Rdb.ofF c7) hx8) rfl rfl ?_ ?_ ?_ ?_; kernel_rfl; kernel_rfl; kernel_rfl
    refine aT 3 rfl (ev_qe rfl) rfl rfl ?_ ?_ ?_ ?_; kernel_rfl; kernel_rfl; kernel_rfl
    refine aT 4 rfl (ev_qe rfl) rfl rfl ?_ ?_ ?_ ?_; kernel_rfl; kernel_rfl; kernel_rfl
    refine aT 5 rfl (ev_qe rfl) rfl rfl ?_ ?_ ?_ ?_; kernel_rfl; kernel_rfl; kernel_rfl
    refine aT 6 rfl (ev_qe rfl) rfl rfl ?_ ?_ ?_ ?_; kernel_rfl; kernel_rfl; kernel_rfl
    refine aT 7 rfl (ev_qe rfl) rfl rfl ?_ ?_ ?_ ?_; kernel_rfl; kernel_rfl; kernel_rfl
    refine aT 8 rfl (ev_indexAddr rfl rfl rfl hlt) rfl rfl ?_ ?_ ?_ ?_; kernel_rfl; kernel_rfl; kernel_rfl
    refine aT 9 rfl (ev_load rfl rfl (Rdb.ofF hcs)) rfl rfl ?_ ?_ ?_ ?_; kernel_rfl; kernel_rfl; kernel_rfl
    refine aT 10 rfl (ev_qe rfl) rfl rfl ?_ ?_ ?_ ?_; kernel_rfl; kernel_rfl; kernel_rfl
    refine aT 11 rfl (ev_makeInterface rfl (by kernel_rfl)) rfl rfl ?_ ?_ ?_ ?_; kernel_rfl; kernel_rfl; kernel_rfl
    refine aT 12 rfl (ev_qe rfl) rfl rfl ?_ ?_ ?_ ?_; kernel_rfl; kernel_rfl; kernel_rfl
    refine aT 13 rfl (ev_qe rfl) rfl rfl ?_ ?_ ?_ ?_; kernel_rfl; kernel_rfl; kernel_rfl
    refine aB (i := 14) (by kernel_rfl) (aC (Hc := (bookC b m tg).A T) (Hr := X) rfl (own_path (bookL b m tg) hk hrm hs h80 hlt h2) Try.call13 rfl rfl rfl (fun _ t => t) (fun _ _ _ hF hq w t => t.bare.mono hF) ?_)
    rintro u1 G1 _ hG1 ⟨hu1, rfl⟩
    refine aB (i := 15) (by kernel_rfl) (aC (Hc := (bookC b m tg).A T) (Hr := X) rfl (leaf_proved (bookL b m tg) hk hrm hs h80 hg (SliceV.mono hxv hG1) hu1) Try.call19 rfl rfl rfl (fun _ t => t) (fun _ _ _ hF hq w t => t.bare.mono (hG1.trans hF)) ?_)
    rintro _ G2 _ hG2 ⟨rfl, rfl⟩
    refine aT 16 rfl (ev_qe rfl) rfl rfl ?_ ?_ ?_ ?_; kernel_rfl; kernel_rfl; kernel_rfl
    refine aT 17 rfl (ev_qe rfl) rfl rfl ?_ ?_ ?_ ?_; kernel_rfl; kernel_rfl; kernel_rfl
    refine aT 18 rfl (ev_qe rfl) rfl rfl ?_ ?_ ?_ ?_; kernel_rfl; kernel_rfl; kernel_rfl
    refine aT 19 rfl (ev_makeInterface rfl (by kernel_rfl)) rfl rfl ?_ ?_ ?_ ?_; kernel_rfl; kernel_rfl; kernel_rfl
    refine aT 20 rfl (ev_load_agg (cs := u8s (rootP (keysC bk) () l).1) rfl rfl (Rdb.ofF c8) hy8) rfl rfl ?_ ?_ ?_ ?_; kernel_rfl; kernel_rfl; kernel_rfl
    refine aT 21 rfl (ev_qe rfl) rfl rfl ?_ ?_ ?_ ?_; kernel_rfl; kernel_rfl; kernel_rfl
    refine aT 22 rfl (ev_qe rfl) rfl rfl ?_ ?_ ?_ ?_; kernel_rfl; kernel_rfl; kernel_rfl
    refine aT 23 rfl (ev_qe rfl) rfl rfl ?_ ?_ ?_ ?_; kernel_rfl; kernel_rfl; kernel_rfl
    refine aT 24 rfl (ev_qe rfl) rfl rfl ?_ ?_ ?_ ?_; kernel_rfl; kernel_rfl; kernel_rfl
    refine aT 25 rfl (ev_qe rfl) rfl rfl ?_ ?_ ?_ ?_; kernel_rfl; kernel_rfl; kernel_rfl
    refine aT 26 rfl (ev_indexAddr rfl rfl rfl hlt) rfl rfl ?_ ?_ ?_ ?_; kernel_rfl; kernel_rfl; kernel_rfl
    refine aT 27 rfl (ev_load rfl rfl (Rdb.ofF hcs)) rfl rfl ?_ ?_ ?_ ?_; kernel_rfl; kernel_rfl; kernel_rfl
    refine aT 28 rfl (ev_qe rfl) rfl rfl ?_ ?_ ?_ ?_; kernel_rfl; kernel_rfl; kernel_rfl
    refine aT 29 rfl (ev_makeInterface rfl (by kernel_rfl)) rfl rfl ?_ ?_ ?_ ?_; kernel_rfl; kernel_rfl; kernel_rfl
    refine aT 30 rfl (ev_qe rfl) rfl rfl ?_ ?_ ?_ ?_; kernel_rfl; kernel_rfl; kernel_rfl
    refine aT 31 rfl (ev_qe rfl) rfl rfl ?_ ?_ ?_ ?_; kernel_rfl; kernel_rfl; kernel_rfl
    refine aB (i := 32) (by kernel_rfl) (aC (Hc := []) (Hr := (bookC b m tg).A T ++ X) rfl (own_path (keysL bk) (T := ()) (keys_knows bk () l) (Nat.zero_le _) hs h80 hlt (h2.mono (hG1.trans hG2))) Try.call13 rfl rfl rfl (fun _ t => t) (fun _ _ _ hF hq w t => t.bare.mono ((hG1.trans hG2).trans hF)) ?_)
    rintro u2 G3 _ hG3 ⟨hu2, rfl⟩
    refine aB (i := 33) (by kernel_rfl) (aC (Hc := []) (Hr := (bookC b m tg).A T ++ X) rfl (leaf_proved (keysL bk) (T := ()) (keys_knows bk () l) (Nat.zero_le _) hs h80 hg (SliceV.mono hxv (hG1.trans (hG2.trans hG3))) hu2) Try.call19 rfl rfl rfl (fun _ t => t) (fun _ _ _ hF hq w t => t.bare.mono ((hG1.trans (hG2.trans hG3)).trans hF)) ?_)
    rintro _ G4 _ hG4 ⟨rfl, rfl⟩
    refine aT 34 rfl (ev_qe rfl) rfl rfl ?_ ?_ ?_ ?_; kernel_rfl; kernel_rfl; kernel_rfl
    refine aT 35 rfl (ev_qe rfl) rfl rfl ?_ ?_ ?_ ?_; kernel_rfl; kernel_rfl; kernel_rfl
    refine aD (by kernel_rfl) ?_
    repeat (first|refine zJ rfl rfl ?_|refine jr rfl ?_|refine jn ?_|refine zM rfl rfl ?_|(refine zC rfl rfl ?_ rfl ?_;omega)|(refine zD rfl rfl ?_ rfl ?_;omega)|(refine zP rfl ?_ rfl ?_;omega)|refine zG rfl rfl rfl rfl ?_|(refine jdq rfl rfl ?_ ?_ ?_;kernel_rfl;kernel_rfl)|refine zB rfl rfl rfl (by repeat constructor) rfl ?_|refine zH .here rfl rfl rfl rfl ?_|refine zH (.there .here) rfl rfl rfl rfl ?_|refine zH (.there (.there .here)) rfl rfl rfl rfl ?_)
    exact J_again2 (j + 1) G4 ⟨hlt, hG.trans (hG1.trans (hG2.trans (hG3.trans hG4)))⟩ (by omega) ⟨⟨rfl, rfl, rfl, rfl, rfl, rfl, rfl, trivial⟩, fun w s => s⟩
  · obtain rfl : j = l.length := by omega
    repeat (first|refine zJ rfl rfl ?_|refine jr rfl ?_|refine jn ?_|refine zM rfl rfl ?_|(refine zC rfl rfl ?_ rfl ?_;omega)|(refine zD rfl rfl ?_ rfl ?_;omega)|(refine zP rfl ?_ rfl ?_;omega)|refine zG rfl rfl rfl rfl ?_|(refine jdq rfl rfl ?_ ?_ ?_;kernel_rfl;kernel_rfl)|refine zB rfl rfl rfl (by repeat constructor) rfl ?_|refine zH .here rfl rfl rfl rfl ?_|refine zH (.there .here) rfl rfl rfl rfl ?_|refine zH (.there (.there .here)) rfl rfl rfl rfl ?_)
    exact J_retv rfl (.tmp rfl .nil) [] (fun w s => Sat.drop (Sat.drop s)) (hFF.trans hG) ⟨rfl, rfl⟩
open Go.ChangeShapes Go.WideShapes Go.ChangeAt
set_option maxRecDepth 100000 in theorem AttestProves_lifted (os : Os) (started : os.Started) (H : Type) (enc : TypeId × Value → H) : ReturnsInHanded {} Try.checked os 6 .any (Rows.attestProvesSpec.pre6 enc Try.prog Try.f6 Rows.attestProvesRow.domain false) (Rows.attestProvesSpec.post enc Try.prog Try.f6 false true false false) := by
  refine returnsInHanded_of_change (C := Try.checked) own_knob started (by kernel_rfl) Try.func6 (ChangeSpec.witness6 (enc := enc) (C := Try.checked) false ⟨#[], #[.slice none 0 0, .slice none 0 0], []⟩ 8 (by kernel_rfl) (by kernel_rfl) (by kernel_rfl) (by kernel_rfl)) ?_; intro W base args ds gs before hval0 hW hcnd _; have hval : ∀ (j : Nat) t v, Try.f6.params[j]? = some t → args[j]? = some v → Value.okWide Try.prog W .any base t v := hval0; have hW' := hW; obtain ⟨p, q, hA0, hV, hp, hfz, hnd⟩ := hW; have hA : DataW.TrodAll enc Try.prog W 0 (fun _ => true) true Try.f6.params.toList args.toList ds p := hA0; obtain ⟨rfl, rfl⟩ := trodVars_none hV; rw [List.append_nil] at hp; have hA' := hA; rw [Try.params6] at hA hval
  obtain ⟨v0, vs0, d0, ds0, p0, q0, hargs, rfl, rfl, h0, r0⟩ := trodAll_cons hA; obtain ⟨v1, vs1, d1, ds1, p1, q1, rfl, rfl, rfl, h1, r1⟩ := trodAll_cons r0; obtain ⟨rfl, rfl, rfl⟩ := trodAll_nil r1; obtain rfl : args = #[v0, v1] := by cases args; simp_all
  obtain ⟨ab, kb, bs, rfl, _, _, hbs⟩ := open_byt Try.underlying36 Try.underlying5 (by kernel_rfl) (hval 0 36 v0 rfl rfl) h0
  obtain ⟨l, hx, hm⟩ := open_rowB tyByt Try.underlying22 (by kernel_rfl) (by decide) (hval 1 22 v1 rfl rfl) h1
  obtain ⟨a0, c0, rfl, _⟩ := hx.form
  refine (law_walk (AttestProves_walk bs l ab a0 kb c0 (ph W) hbs hx hm)).mono fun e W' ⟨he, hb⟩ => ?_
  subst he
  exact ⟨_, rfl, law_post laid_out (by kernel_rfl) rfl rfl Try.underlying4 hW' hA' hp rfl hb⟩
theorem AttestProves_holds : Rows.AttestProvesSaid := OpenClaim.holds_of_wide 6 Try.f6 rfl rfl rfl rfl rfl rfl rfl ⟨rfl, rfl, rfl, rfl, rfl⟩ rfl rfl rfl rfl rfl (by kernel_rfl) Try.func6 (by kernel_rfl) (of_decide_eq_true (by kernel_rfl)) (by unfold Func.isWrapper; first | (rw [if_pos (by decide +kernel)]; kernel_rfl) | (rw [if_neg (by decide +kernel)]; exact ⟨rfl, rfl⟩)) (fun os started H enc _ => AttestProves_lifted os started H enc)
#print axioms AttestProves_holds
end Go.Proofs.Ytohlmhoacjodjaa
