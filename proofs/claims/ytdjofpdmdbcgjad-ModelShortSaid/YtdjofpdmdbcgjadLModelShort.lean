/- The law ModelShort, over heaps. -/
import Derived.Test.YtdjofpdmdbcgjadCLaw15
import Derived.Test.YtdjofpdmdbcgjadShRow
namespace Go.Proofs.Ytdjofpdmdbcgjad.G
open Go Go.Sh
set_option linter.unusedVariables false
set_option linter.unusedSimpArgs false

theorem wf8 {n : Int} (h : (Lit.int .u8 n).wf = true) : 0 ≤ n ∧ n ≤ 255 := by
  simp only [Lit.wf, Bool.and_eq_true, decide_eq_true_eq] at h
  have e1 : IntKind.min .u8 = 0 := by decide
  have e2 : IntKind.max .u8 = 255 := by decide
  rw [e1, e2] at h
  omega

theorem ModelShort_ok {h : Heap} {p : Option Addr} {l c : Nat} {L : List Int} (cut more : Int) (hx : Row h p (ints L)) (hL : L.length = l) (hlc : l ≤ c) (hl : l < 2 ^ 62) (hmo : 0 ≤ more ∧ more ≤ 255) :
    callP P n_law15_ModelShort #[.slice p l c, .int .i64 cut, .int .u8 more] h fun v h' => v = .bool true ∧ Fra no h h' := by
  refine call_law15_ModelShort _ _ _ _ _ ?_
  unfold law15_ModelShort
  have S := (Sep.start h no).read (row p (ints L)) hx
  have hml : magic.length = 4 := rfl
  refine (awake15_ok).mono ?_
  rintro _ _ ⟨rfl, F⟩
  refine ⟨_, rfl, ?_⟩
  replace S := S.fra0 F
  refine (Made15_S (S.r 0 _ rfl) hL hlc hl).mono ?_
  rintro _ g1 ⟨gv, rfl, ok, hm, hsl, S1⟩
  replace S := S.add S1 fun _ _ h => h
  refine exS_i gv.t ⟨rfl, ?_⟩
  obtain ⟨hf, hs, hn1, hn6, hin, hwd⟩ := hm.fits
  have hlen := enc_len hs
  have hge : 4 ≤ (magic ++ gv.gr.enc).length := by rw [List.length_append, hml]; omega
  dsimp only [List.cons_append, List.nil_append] at S
  refine (REncode_S (S.own 0 rfl).row (S.w 1 _ rfl) ok hs).mono ?_
  rintro _ g5 ⟨rfl, F⟩
  replace S := S.fra0 F
  refine ⟨_, _, rfl, ?_⟩
  rw [out2_fit hf]
  dsimp only
  rw [str_size]
  refine ⟨by omega, by omega, ?_⟩
  obtain ⟨k, ek, hk⟩ := tmod_range cut (n := (magic ++ gv.gr.enc).length) (by omega) (by omega)
  rw [ek]
  refine bndI_i (n := k) rfl (by omega) ?_
  rw [str_extract, List.drop_zero, Nat.sub_zero]
  refine (Decode_S (by rw [List.length_take]; omega)).mono ?_
  rintro _ g6 ⟨ga, rfl, aok, agr, S1⟩
  rw [dGr_cut hf hk] at agr ⊢
  replace S := S.add S1 fun _ _ h => h
  refine exS_i ga.t ⟨_, rfl, ?_⟩
  refine newI_S S fun b15 g7 _ S => ?_
  dsimp only [List.cons_append, List.nil_append] at S
  refine stL_S S 4 rfl rfl (mkS_one rfl) fun g8 _ S => ?_
  dsimp only [List.set] at S
  have hmore : more = ((lowByte more).toNat : Int) := by rw [lowByte_toNat]; omega
  refine newI_S S (fun b18 _ _ S => ?_)
  dsimp only [List.cons_append, List.nil_append] at S
  refine b2sB_i (bs := [lowByte more]) (Row.of_at (by have := S.at 5 rfl; rw [hmore] at this; exact this)) rfl ⟨_, rfl, ?_⟩
  refine addStrI_i (by rw [str_size, str_size, List.length_singleton]; omega) ?_
  rw [str_append]
  refine (Decode_S (by rw [List.length_append, List.length_singleton]; omega)).mono ?_
  rintro _ g9 ⟨gb, rfl, bok, bgr, S1⟩
  rw [dGr_more hf (by simp)]
  replace S := S.add S1 fun _ _ h => h
  refine exS_i gb.t ⟨_, rfl, ?_⟩
  refine newI_S S fun b26 g10 _ S => ?_
  dsimp only [List.cons_append, List.nil_append] at S
  refine stL_S S 8 rfl rfl (mkS_one rfl) fun g11 _ S => ?_
  dsimp only [List.set] at S
  have hz : ga.width = 0 ∧ ga.l = 0 := by
    have h1 : ga.gr.width = 0 := by rw [agr]; rfl
    have h2 : ga.gr.nodes = [] := by rw [agr]; rfl
    refine ⟨h1, ?_⟩
    rw [← aok.1]
    have : ga.ns.map Nv.nd = [] := h2
    rw [List.map_eq_nil_iff] at this
    rw [this]; rfl
  refine ifB_dec (fun h4 => ?_) (fun h4 => ?_)
  · rw [if_pos (by omega)]
    refine ifB_true rfl (ifB_true rfl ?_)
    refine ⟨ga.p, ga.l, ga.c, S.cell 4 rfl rfl, ?_⟩
    rw [hz.2]
    refine ifB_true rfl ?_
    refine ldInt_i (n := ga.width) (S.cell 4 rfl rfl) ?_
    rw [hz.1]
    exact ifB_true rfl ⟨rfl, S.fra⟩
  · rw [if_neg (by omega)]
    refine ifB_true rfl (ifB_true rfl ?_)
    refine ⟨ga.p, ga.l, ga.c, S.cell 4 rfl rfl, ?_⟩
    rw [hz.2]
    refine ifB_true rfl ?_
    refine ldInt_i (n := ga.width) (S.cell 4 rfl rfl) ?_
    rw [hz.1]
    exact ifB_true rfl ⟨rfl, S.fra⟩

end Go.Proofs.Ytdjofpdmdbcgjad.G
