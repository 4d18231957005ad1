/- The law ModelOnce, over heaps. -/
import Derived.Test.YtdjofpdmdbcgjadCLaw15
namespace Go.Proofs.Ytdjofpdmdbcgjad.G
open Go Go.Sh
set_option linter.unusedVariables false
set_option linter.unusedSimpArgs false

theorem ModelOnce_ok {h : Heap} {p : Option Addr} {l c : Nat} {L : List Int} (raw : ByteArray) (q0 q1 q2 : Int) (hx : Row h p (ints L)) (hL : L.length = l) (hlc : l ≤ c) (hl : l < 2 ^ 62) :
    callP P n_law15_ModelOnce #[.string raw, .slice p l c, .agg #[.int .i64 q0, .int .i64 q1, .int .i64 q2]] h fun v h' => v = .bool true ∧ Fra no h h' := by
  obtain ⟨rs, rfl⟩ := of_str raw
  refine call_law15_ModelOnce _ _ _ _ _ _ _ ?_
  unfold law15_ModelOnce
  have S := (Sep.start h no).read (row p (ints L)) hx
  refine newI_S S (fun b1 _ _ S => ?_)
  dsimp only [List.cons_append, List.nil_append] at S
  refine (awake15_ok).mono ?_
  rintro _ _ ⟨rfl, F⟩
  refine ⟨_, rfl, ?_⟩
  replace S := S.fra0 F
  have em : (ByteArray.mk #[69, 65, 82, 49]) = str magic := rfl
  have hml : magic.length = 4 := rfl
  rw [str_size]
  refine ifB_dec (fun hgt => ?_) (fun hle => ?_)
  · refine bndI_i (n := 80) rfl (by omega) ?_
    rw [str_extract]
    refine (Made15_S (S.r 0 _ rfl) hL hlc hl).mono ?_
    rintro _ g1 ⟨gv, rfl, ok, hm, hsl, S1⟩
    replace S := S.add S1 fun _ _ h => h
    refine exS_i gv.t ⟨rfl, ?_⟩
    obtain ⟨hf, hs, hn1, hn6, hin, hwd⟩ := hm.fits
    have hlen := enc_len hs
    dsimp only [List.cons_append, List.nil_append] at S
    refine (REncode_S (S.own 1 rfl).row (S.w 2 _ rfl) ok hs).mono ?_
    rintro _ g5 ⟨rfl, F⟩
    replace S := S.fra0 F
    refine ⟨_, _, rfl, ?_⟩
    rw [out2_fit hf]
    refine ifB_true rfl ?_
    rw [em]
    have h80 : ((rs.drop 0).take (80 - 0)).length = 80 := by rw [List.length_take, List.length_drop]; omega
    refine addStrI_i (by rw [str_size, str_size, hml, h80]; decide) ?_
    rw [str_append]
    refine (once15_ok (by rw [List.length_append, hml, h80]; decide)).mono ?_
    rintro _ _ ⟨rfl, F⟩
    refine ⟨_, rfl, ?_⟩
    replace S := S.fra0 F
    refine ifB_true rfl ?_
    refine ldInt_i (n := q0) (S.cell 0 rfl rfl) (ldInt_i (n := q1) (S.cell 0 rfl rfl) (ldInt_i (n := q2) (S.cell 0 rfl rfl) ?_))
    refine (spoilt15_ok (s := magic ++ gv.gr.enc) (by omega) q0 q1 q2).mono ?_
    rintro _ _ ⟨u, rfl, hu, F⟩
    refine ⟨_, rfl, ?_⟩
    replace S := S.fra0 F
    refine (once15_ok (by omega)).mono ?_
    rintro _ _ ⟨rfl, F⟩
    refine ⟨_, rfl, ?_⟩
    replace S := S.fra0 F
    refine ifB_true rfl ?_
    refine (once15_ok (s := magic ++ gv.gr.enc) (by omega)).mono ?_
    rintro _ _ ⟨rfl, F⟩
    refine ⟨_, rfl, ?_⟩
    replace S := S.fra0 F
    exact ⟨rfl, S.fra⟩
  · refine (Made15_S (S.r 0 _ rfl) hL hlc hl).mono ?_
    rintro _ g1 ⟨gv, rfl, ok, hm, hsl, S1⟩
    replace S := S.add S1 fun _ _ h => h
    refine exS_i gv.t ⟨rfl, ?_⟩
    obtain ⟨hf, hs, hn1, hn6, hin, hwd⟩ := hm.fits
    have hlen := enc_len hs
    dsimp only [List.cons_append, List.nil_append] at S
    refine (REncode_S (S.own 1 rfl).row (S.w 2 _ rfl) ok hs).mono ?_
    rintro _ g5 ⟨rfl, F⟩
    replace S := S.fra0 F
    refine ⟨_, _, rfl, ?_⟩
    rw [out2_fit hf]
    refine ifB_true rfl ?_
    rw [em]
    refine addStrI_i (by rw [str_size, str_size, hml]; omega) ?_
    rw [str_append]
    refine (once15_ok (by rw [List.length_append, hml]; omega)).mono ?_
    rintro _ _ ⟨rfl, F⟩
    refine ⟨_, rfl, ?_⟩
    replace S := S.fra0 F
    refine ifB_true rfl ?_
    refine ldInt_i (n := q0) (S.cell 0 rfl rfl) (ldInt_i (n := q1) (S.cell 0 rfl rfl) (ldInt_i (n := q2) (S.cell 0 rfl rfl) ?_))
    refine (spoilt15_ok (s := magic ++ gv.gr.enc) (by omega) q0 q1 q2).mono ?_
    rintro _ _ ⟨u, rfl, hu, F⟩
    refine ⟨_, rfl, ?_⟩
    replace S := S.fra0 F
    refine (once15_ok (by omega)).mono ?_
    rintro _ _ ⟨rfl, F⟩
    refine ⟨_, rfl, ?_⟩
    replace S := S.fra0 F
    refine ifB_true rfl ?_
    refine (once15_ok (s := magic ++ gv.gr.enc) (by omega)).mono ?_
    rintro _ _ ⟨rfl, F⟩
    refine ⟨_, rfl, ?_⟩
    replace S := S.fra0 F
    exact ⟨rfl, S.fra⟩

end Go.Proofs.Ytdjofpdmdbcgjad.G
