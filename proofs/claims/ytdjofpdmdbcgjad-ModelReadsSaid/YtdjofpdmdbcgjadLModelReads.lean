/- The law ModelReads, over heaps. -/
import Derived.Test.YtdjofpdmdbcgjadCLaw15
namespace Go.Proofs.Ytdjofpdmdbcgjad.G
open Go Go.Sh
set_option linter.unusedVariables false
set_option linter.unusedSimpArgs false

section
variable {h : Heap} {p : Option Addr} {l c : Nat} {L : List Int}

theorem reads_j4 {g : Heap} {rs : List UInt8} {b1 : Nat} {q0 q1 q2 q3 q4 q5 : Int} (hr : rs.length ≤ 80) (S : Sep h no g [blk b1 [.int .i64 q0, .int .i64 q1, .int .i64 q2, .int .i64 q3, .int .i64 q4, .int .i64 q5]] [row p (ints L)]) (hL : L.length = l) (hlc : l ≤ c) (hl : l < 2 ^ 62) :
    law15_ModelReads_j4 (fun v h' => v = .bool true ∧ Fra no h h') (str rs) p l c ⟨b1, 0, none⟩ true g := by
  unfold law15_ModelReads_j4
  have em : (ByteArray.mk #[69, 65, 82, 49]) = str magic := rfl
  have hml : magic.length = 4 := rfl
  refine (Made15_S (S.r 0 _ rfl) hL hlc hl).mono ?_
  rintro _ g1 ⟨gv, rfl, ok, hm, hsl, S1⟩
  replace S := S.add S1 fun _ _ h => h
  refine exS_i gv.t ⟨rfl, ?_⟩
  obtain ⟨hf, hs, hn1, hn6, hin, hwd⟩ := hm.fits
  have hlen := enc_len hs
  dsimp only [List.cons_append, List.nil_append] at S
  refine (REncode_S (S.own 1 rfl).row (S.w 2 _ rfl) ok hs).mono ?_
  rintro _ g5 ⟨rfl, F⟩
  replace S := S.fra0 F
  refine ⟨_, _, rfl, ?_⟩
  rw [out2_fit hf]
  refine arrI_i (by decide) (by decide) ?_
  refine ldInt_i (n := q0) (S.cell 0 rfl rfl) (ldInt_i (n := q1) (S.cell 0 rfl rfl) (ldInt_i (n := q2) (S.cell 0 rfl rfl) ?_))
  refine (spoilt15_ok (s := magic ++ gv.gr.enc) (by omega) q0 q1 q2).mono ?_
  rintro _ _ ⟨u, rfl, hu, F⟩
  refine ⟨_, rfl, ?_⟩
  replace S := S.fra0 F
  refine ifB_true rfl ?_
  refine (reads15_ok (s := rs) (by omega)).mono ?_
  rintro _ _ ⟨rfl, F⟩
  refine ⟨_, rfl, ?_⟩
  replace S := S.fra0 F
  refine ifB_true rfl ?_
  rw [em]
  refine addStrI_i (by rw [str_size, str_size, hml]; omega) ?_
  rw [str_append]
  refine (reads15_ok (by rw [List.length_append, hml]; omega)).mono ?_
  rintro _ _ ⟨rfl, F⟩
  refine ⟨_, rfl, ?_⟩
  replace S := S.fra0 F
  refine ifB_true rfl ?_
  refine (reads15_ok (s := magic ++ gv.gr.enc) (by omega)).mono ?_
  rintro _ _ ⟨rfl, F⟩
  refine ⟨_, rfl, ?_⟩
  replace S := S.fra0 F
  refine ifB_true rfl ?_
  refine (reads15_ok (s := u) (by omega)).mono ?_
  rintro _ _ ⟨rfl, F⟩
  refine ⟨_, rfl, ?_⟩
  replace S := S.fra0 F
  refine ifB_true rfl ?_
  refine arrI_i (by decide) (by decide) ?_
  refine ldInt_i (n := q3) (S.cell 0 rfl rfl) (ldInt_i (n := q4) (S.cell 0 rfl rfl) (ldInt_i (n := q5) (S.cell 0 rfl rfl) ?_))
  refine (spoilt15_ok (s := u) (by omega) q3 q4 q5).mono ?_
  rintro _ _ ⟨u2, rfl, hu2, F⟩
  refine ⟨_, rfl, ?_⟩
  replace S := S.fra0 F
  refine (reads15_ok (s := u2) (by omega)).mono ?_
  rintro _ _ ⟨rfl, F⟩
  refine ⟨_, rfl, ?_⟩
  replace S := S.fra0 F
  exact ⟨rfl, S.fra⟩

theorem ModelReads_ok (raw : ByteArray) (q0 q1 q2 q3 q4 q5 : Int) (hx : Row h p (ints L)) (hL : L.length = l) (hlc : l ≤ c) (hl : l < 2 ^ 62) :
    callP P n_law15_ModelReads #[.string raw, .slice p l c, .agg #[.int .i64 q0, .int .i64 q1, .int .i64 q2, .int .i64 q3, .int .i64 q4, .int .i64 q5]] h fun v h' => v = .bool true ∧ Fra no h h' := by
  obtain ⟨rs, rfl⟩ := of_str raw
  refine call_law15_ModelReads _ _ _ _ (q0, q1, q2, q3, q4, q5, ()) ?_
  unfold law15_ModelReads
  have S := (Sep.start h no).read (row p (ints L)) hx
  refine newI_S S (fun b1 _ _ S => ?_)
  dsimp only [List.cons_append, List.nil_append] at S
  refine (awake15_ok).mono ?_
  rintro _ _ ⟨rfl, F⟩
  refine ⟨_, rfl, ?_⟩
  replace S := S.fra0 F
  refine ⟨fun s g => ∃ us : List UInt8, s = (str us, (p, l, c), ⟨b1, 0, none⟩, true, ()) ∧ us.length ≤ 80 ∧ Sep h no g [blk b1 [.int .i64 q0, .int .i64 q1, .int .i64 q2, .int .i64 q3, .int .i64 q4, .int .i64 q5]] [row p (ints L)], ?_, ?_⟩
  · rintro s g ⟨us, rfl, hu, S⟩
    exact reads_j4 hu S hL hlc hl
  · rw [str_size]
    refine ifB_dec (fun hgt => ?_) (fun hle => ⟨rs, rfl, by omega, S⟩)
    refine bndI_i (n := 80) rfl (by omega) ?_
    rw [str_extract]
    exact ⟨_, rfl, by rw [List.length_take]; omega, S⟩
end

end Go.Proofs.Ytdjofpdmdbcgjad.G
