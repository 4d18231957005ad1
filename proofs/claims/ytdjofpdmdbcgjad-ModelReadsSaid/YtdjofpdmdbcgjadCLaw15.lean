/- The laws' helpers of chapter 15: awake, reads, once, spoilt. -/
import Derived.Test.YtdjofpdmdbcgjadCFit
import Derived.Test.YtdjofpdmdbcgjadCModelE
import Derived.Test.YtdjofpdmdbcgjadCModelR2
namespace Go.Proofs.Ytdjofpdmdbcgjad.G
open Go Go.Sh
set_option linter.unusedVariables false
set_option linter.unusedSimpArgs false

theorem enc_len {g : Gr} (h : g.short) : (magic ++ g.enc).length < 2 ^ 40 := by
  have h1 := encs_length g.nodes h.2
  have h2 := h.1
  have hml : magic.length = 4 := rfl
  unfold Gr.enc
  simp only [List.length_append, bytS_length, words_length, List.length_cons, List.length_nil, hml]
  omega
theorem out2_fit {g : Gr} (h : g.fit) : g.out2 = (magic ++ g.enc, 0) := by unfold Gr.out2; rw [if_pos h]
theorem short_small {gv : Gv} (hok : gv.ok) {n m : Nat} (hm : m < 2 ^ 62) (h : gv.gr.nodes.length ≤ n ∧ ∀ x ∈ gv.gr.nodes, x.inn.length ≤ m ∧ x.weights.length ≤ m ∧ x.bias.length ≤ m) : gv.l ≤ n ∧ ∀ x ∈ gv.ns, x.small := by
  refine ⟨?_, fun x hx => ?_⟩
  · have := h.1
    simp only [Gv.gr, List.length_map] at this
    rw [← hok.1]; exact this
  · have hn := h.2 x.nd (List.mem_map.2 ⟨x, hx, rfl⟩)
    have ho := hok.2.2 x hx
    have h1 := ho.1.1
    have h2 := ho.2.1.1
    have h3 := ho.2.2.1
    have h4 : x.inn.xs.length ≤ m := hn.1
    have h5 : x.weights.xs.length ≤ m := hn.2.1
    have h6 : x.bias.xs.length ≤ m := hn.2.2
    exact ⟨by omega, by omega, by omega⟩
theorem dGr_len (s : List UInt8) : (dGr s).1.nodes.length ≤ 255 ∧ ∀ n ∈ (dGr s).1.nodes, n.inn.length ≤ 65535 ∧ n.weights.length ≤ 65535 ∧ n.bias.length ≤ 65535 := by
  have := dGr_short s
  exact ⟨this.1, fun n hn => by have := this.2 n hn; omega⟩

section
variable {h : Heap} {s : List UInt8}

theorem awake15_ok : callP P n_law15_awake #[] h fun v h' => v = .bool true ∧ Fra no h h' := by
  refine call_law15_awake ?_
  unfold law15_awake
  refine (Encode_S (g := ⟨1, 0, 1, none, 0, 0, 0, []⟩) (.inl rfl) (fun f hf => by cases hf) ⟨rfl, Nat.le_refl _, (fun n hn => by cases hn)⟩ ⟨by decide, (fun n hn => by cases hn)⟩).mono ?_
  rintro _ _ ⟨rfl, F⟩
  refine ⟨_, _, rfl, ?_⟩
  have e : (⟨1, 0, 1, none, 0, 0, 0, []⟩ : Gv).gr.out2 = (magic ++ (⟨1, 0, 1, none, 0, 0, 0, []⟩ : Gv).gr.enc, 0) := out2_fit ⟨by decide, by decide, by decide, (fun n hn => by cases hn), by decide⟩
  rw [e]
  refine ifB_true rfl ⟨?_, F⟩
  rw [show ByteArray.mk #[69, 65, 82, 49, 1, 0, 0, 0, 0, 1, 0, 0, 0, 0, 0] = str [69, 65, 82, 49, 1, 0, 0, 0, 0, 1, 0, 0, 0, 0, 0] from rfl, toList_beq]
  rfl

theorem reads15_ok (hs : s.length < 2 ^ 62) : callP P n_law15_reads #[.string (str s)] h fun v h' => v = .bool true ∧ Fra no h h' := by
  refine call_law15_reads _ ?_
  unfold law15_reads
  have S := Sep.start h no
  refine (Decode_S hs).mono ?_
  rintro _ g1 ⟨ga, rfl, aok, agr, S1⟩
  replace S := S.add S1 fun _ _ h => h
  refine exS_i ga.t ⟨_, rfl, ?_⟩
  refine newI_S S fun b5 g2 _ S => ?_
  dsimp only [List.cons_append, List.nil_append] at S
  refine stL_S S 2 rfl rfl (mkS_one rfl) fun g3 _ S => ?_
  refine (dDecode_S hs).mono ?_
  rintro _ g4 ⟨gb, rfl, bok, bgr, S1⟩
  replace S := S.add S1 fun _ _ h => h
  refine exS_i gb.t ⟨_, rfl, ?_⟩
  refine newI_S S fun b12 g5 _ S => ?_
  dsimp only [List.set, List.cons_append, List.nil_append] at S
  refine stL_S S 5 rfl rfl (mkS_one rfl) fun g6 _ S => ?_
  dsimp only [List.set] at S
  refine ldAg_S S 2 rfl (x := ga.t) rfl ?_
  refine ldAg_S S 5 rfl (x := gb.t) rfl ?_
  have hsm := short_small (n := 255) (m := 65535) aok (by decide) (by rw [agr]; exact dGr_len s)
  refine (Same15_ok aok bok (S.own 0 rfl).row (S.w 1 _ rfl) (S.own 3 rfl).row (S.w 4 _ rfl) (by have := hsm.1; omega) hsm.2).mono ?_
  rintro _ g7 ⟨b, rfl, hb, F⟩
  refine ⟨_, rfl, ?_⟩
  refine ifB_true (by simp) ⟨?_, (S.fra0 F).fra⟩
  rw [hb.2 (by rw [agr, bgr])]

theorem once15_ok (hs : s.length < 2 ^ 62) : callP P n_law15_once #[.string (str s)] h fun v h' => v = .bool true ∧ Fra no h h' := by
  refine call_law15_once _ ?_
  unfold law15_once
  have S := Sep.start h no
  refine (Decode_S hs).mono ?_
  rintro _ g1 ⟨ga, rfl, aok, agr, S1⟩
  replace S := S.add S1 fun _ _ h => h
  refine exS_i ga.t ⟨_, rfl, ?_⟩
  refine newI_S S fun b5 g2 _ S => ?_
  dsimp only [List.cons_append, List.nil_append] at S
  refine stL_S S 2 rfl rfl (mkS_one rfl) fun g3 _ S => ?_
  dsimp only [List.set] at S
  refine ldAg_S S 2 rfl (x := ga.t) rfl ?_
  have hl := dGr_len s
  refine (Encode_S (S.own 0 rfl).row (S.w 1 _ rfl) aok (by rw [agr]; exact ⟨by have := hl.1; omega, fun n hn => by have := hl.2 n hn; unfold Nd.short; omega⟩)).mono ?_
  rintro _ g4 ⟨rfl, F⟩
  refine ⟨_, _, rfl, ?_⟩
  refine ifB_bne (fun hne => ⟨rfl, (S.fra0 F).fra⟩) (fun he => ?_)
  have ho := dGr_once he
  rw [agr, out2_fit ho.1]
  refine ifB_true rfl ⟨?_, (S.fra0 F).fra⟩
  rw [toList_beq, decide_eq_true ho.2.symm]

theorem spoilt15_ok (hs : s.length < 2 ^ 60) (q0 q1 q2 : Int) : callP P n_law15_spoilt #[.string (str s), .agg #[.int .i64 q0, .int .i64 q1, .int .i64 q2]] h fun v h' => ∃ u : List UInt8, v = .string (str u) ∧ u.length ≤ s.length + 1 ∧ Fra no h h' := by
  refine call_law15_spoilt _ _ _ _ ?_
  unfold law15_spoilt
  have S := Sep.start h no
  refine newI_S S (fun b1 _ _ S => ?_)
  dsimp only [List.nil_append] at S
  rw [str_size]
  refine ifB_beq (fun h0 => ⟨s, rfl, by omega, S.fra⟩) (fun h0 => ?_)
  refine ldInt_i (n := q0) (S.cell 0 rfl rfl) ⟨h0, h0, ?_⟩
  obtain ⟨k, ek, hk⟩ := tmod_range q0 (n := s.length) (by omega) (by omega)
  rw [ek]
  refine ldInt_i (n := q2) (S.cell 0 rfl rfl) (ifB_beq (fun _ => ?_) (fun _ => ?_))
  · refine bndI_i (n := k) rfl (by omega) ?_
    rw [str_extract]
    exact ⟨_, rfl, by rw [List.length_take, List.length_drop]; omega, S.fra⟩
  · refine ldInt_i (n := q2) (S.cell 0 rfl rfl) (ifB_beq (fun _ => ?_) (fun _ => ?_))
    · refine ldInt_i (n := q1) (S.cell 0 rfl rfl) ?_
      refine newI_S S (fun b8 _ _ S => ?_)
      refine b2sB_i (bs := [lowByte q1]) (Row.of_at (by have := S.at 1 rfl; rw [wrap_u8, ← lowByte_toNat] at this; exact this)) rfl ⟨_, rfl, ?_⟩
      refine addStrI_i (by rw [str_size, str_size, List.length_singleton]; omega) ?_
      rw [str_append]
      exact ⟨_, rfl, by rw [List.length_append, List.length_singleton]; omega, S.fra⟩
    · refine bndI_i (n := k) rfl (by omega) ?_
      rw [wrap64_in (n := (k : Int) + 1) (by omega)]
      refine bndI_i (n := k + 1) rfl (by omega) ?_
      refine ldInt_i (n := q1) (S.cell 0 rfl rfl) ?_
      refine newI_S S (fun b15 _ _ S => ?_)
      refine b2sB_i (bs := [lowByte q1]) (Row.of_at (by have := S.at 1 rfl; rw [wrap_u8, ← lowByte_toNat] at this; exact this)) rfl ⟨_, rfl, ?_⟩
      rw [str_extract, str_extract]
      refine addStrI_i (by rw [str_size, str_size, List.length_singleton, List.length_take]; omega) ?_
      rw [str_append]
      refine addStrI_i (by rw [str_size, str_size, List.length_append, List.length_singleton, List.length_take, List.length_take, List.length_drop, List.length_drop]; omega) ?_
      rw [str_append]
      exact ⟨_, rfl, by simp only [List.length_append, List.length_singleton, List.length_take, List.length_drop]; omega, S.fra⟩
end

end Go.Proofs.Ytdjofpdmdbcgjad.G
