/- The law ModelBack, over heaps. -/
import Derived.Test.YtdjofpdmdbcgjadCLaw15
namespace Go.Proofs.Ytdjofpdmdbcgjad.G
open Go Go.Sh
set_option linter.unusedVariables false
set_option linter.unusedSimpArgs false

theorem ModelBack_ok {h : Heap} {p : Option Addr} {l c : Nat} {L : List Int} (hx : Row h p (ints L)) (hL : L.length = l) (hlc : l ≤ c) (hl : l < 2 ^ 62) :
    callP P n_law15_ModelBack #[.slice p l c] h fun v h' => v = .bool true ∧ Fra no h h' := by
  refine call_law15_ModelBack _ _ _ ?_
  unfold law15_ModelBack
  have S := (Sep.start h no).read (row p (ints L)) hx
  refine (awake15_ok).mono ?_
  rintro _ _ ⟨rfl, F⟩
  refine ⟨_, rfl, ?_⟩
  replace S := S.fra0 F
  refine (Made15_S (S.r 0 _ rfl) hL hlc hl).mono ?_
  rintro _ g1 ⟨gv, rfl, ok, hm, hsl, S1⟩
  replace S := S.add S1 fun _ _ h => h
  refine exS_i gv.t ⟨rfl, ?_⟩
  obtain ⟨hf, hs, hn1, hn6, hin, hwd⟩ := hm.fits
  have hlen := enc_len hs
  refine newI_S S fun b6 g2 _ S => ?_
  dsimp only [List.cons_append, List.nil_append] at S
  refine stL_S S 2 rfl rfl (mkS_one rfl) fun g3 _ S => ?_
  dsimp only [List.set] at S
  refine ldAg_S S 2 rfl (x := gv.t) rfl ?_
  refine (Encode_S (S.own 0 rfl).row (S.w 1 _ rfl) ok hs).mono ?_
  rintro _ g4 ⟨rfl, F⟩
  replace S := S.fra0 F
  refine ⟨_, _, rfl, ?_⟩
  refine ldAg_S S 2 rfl (x := gv.t) rfl ?_
  refine (REncode_S (S.own 0 rfl).row (S.w 1 _ rfl) ok hs).mono ?_
  rintro _ g5 ⟨rfl, F⟩
  replace S := S.fra0 F
  refine ⟨_, _, rfl, ?_⟩
  rw [out2_fit hf]
  refine (Decode_S (s := magic ++ gv.gr.enc) (by omega)).mono ?_
  rintro _ g6 ⟨ga, rfl, aok, agr, S1⟩
  rw [dGr_back hf] at agr ⊢
  replace S := S.add S1 fun _ _ h => h
  refine exS_i ga.t ⟨_, rfl, ?_⟩
  refine newI_S S fun b23 g7 _ S => ?_
  dsimp only [List.cons_append, List.nil_append] at S
  refine stL_S S 5 rfl rfl (mkS_one rfl) fun g8 _ S => ?_
  dsimp only [List.set] at S
  refine ldAg_S S 2 rfl (x := gv.t) rfl ?_
  refine ldAg_S S 5 rfl (x := ga.t) rfl ?_
  have hsm := short_small (n := 1000) (m := 2 ^ 20) ok (by decide) hs
  refine (Same15_ok ok aok (S.own 0 rfl).row (S.w 1 _ rfl) (S.own 3 rfl).row (S.w 4 _ rfl) (by have := hsm.1; omega) hsm.2).mono ?_
  rintro _ g9 ⟨b, rfl, hb, F⟩
  refine ⟨_, rfl, ?_⟩
  refine ifB_true rfl (ifB_true rfl (ifB_true rfl (ifB_true (by rw [toList_beq]; simp) ⟨?_, (S.fra0 F).fra⟩)))
  rw [hb.2 agr.symm]

end Go.Proofs.Ytdjofpdmdbcgjad.G
