/- Contracts: the document's Encode, whole. -/
import Derived.Test.YtdjofpdmdbcgjadCModelR
namespace Go.Proofs.Ytdjofpdmdbcgjad.G
open Go Go.Sh
set_option linter.unusedVariables false
set_option linter.unusedSimpArgs false

theorem REncode_S {h : Heap} {g : Gv} (hp : Row h g.p (nflat g.ns)) (hr : (nrows g.ns).P h) (hok : g.ok) (hs : g.gr.short) :
    callP P n_ref15_Encode #[g.v] h fun v h' => v = .tuple #[.string (str g.gr.out2.1), .int .i64 g.gr.out2.2] ∧ Fra no h h' := by
  refine call_ref15_Encode _ ?_
  unfold ref15_Encode
  have S := ((Sep.start h no).read (row g.p (nflat g.ns)) hp).read (nrows g.ns) hr
  dsimp only [List.cons_append, List.nil_append] at S
  obtain ⟨gok1, gok2, gok3⟩ := hok
  have hn1000 : g.l ≤ 1000 := by have := hs.1; simp [Gv.gr] at this; omega
  refine newI_S S (fun b1 _ _ S => ?_)
  have em : (ByteArray.mk #[69, 65, 82, 49]) = str magic := rfl
  rw [em]
  refine newI_S S (fun b3 _ _ S => ?_)
  replace S := S.pw [1, 0]
  dsimp only [Sh.pick, List.getElem?_cons_zero, List.getElem?_cons_succ, List.cons_append, List.nil_append] at S
  have hml : magic.length = 4 := rfl
  (repeat (first | ((with_reducible refine ldInt_id ?_); refine ldInt_i (S.cell 1 rfl rfl) ?_)))
  refine (obyt_S (S.into [0] [] []) g.width (by omega)).mono ?_
  rintro _ _ ⟨rfl, S1⟩
  refine ⟨rfl, ?_⟩
  replace S := S.back [0] S1
  try dsimp only [merge, List.set, List.cons_append, List.nil_append] at S
  (repeat (first | ((with_reducible refine ldInt_id ?_); refine ldInt_i (S.cell 1 rfl rfl) ?_)))
  refine (oword_S (S.into [0] [] []) g.low (by simp only [List.length_append, bytS_length, List.length_cons, List.length_nil]; omega)).mono ?_
  rintro _ _ ⟨rfl, S1⟩
  refine ⟨rfl, ?_⟩
  replace S := S.back [0] S1
  try dsimp only [merge, List.set, List.cons_append, List.nil_append] at S
  (repeat (first | ((with_reducible refine ldInt_id ?_); refine ldInt_i (S.cell 1 rfl rfl) ?_)))
  refine (oword_S (S.into [0] [] []) g.high (by simp only [List.length_append, bytS_length, words_length, List.length_cons, List.length_nil]; omega)).mono ?_
  rintro _ _ ⟨rfl, S1⟩
  refine ⟨rfl, ?_⟩
  replace S := S.back [0] S1
  try dsimp only [merge, List.set, List.cons_append, List.nil_append] at S
  (repeat (first | ((with_reducible refine ldSlice_id ?_); refine ldSlice_i (S.cell 1 rfl rfl) ?_)))
  refine (obyt_S (S.into [0] [] []) ((g.l : Nat) : Int) (by simp only [List.length_append, bytS_length, words_length, List.length_cons, List.length_nil]; omega)).mono ?_
  rintro _ _ ⟨rfl, S1⟩
  refine ⟨rfl, ?_⟩
  replace S := S.back [0] S1
  try dsimp only [merge, List.set, List.cons_append, List.nil_append] at S
  generalize hhd : (magic ++ bytS [g.width] ++ words [g.low] ++ words [g.high] ++ bytS [((g.l : Nat) : Int)] : List UInt8) = hd at S
  have hhl : hd.length = 14 := by rw [← hhd]; simp only [List.length_append, bytS_length, words_length, List.length_cons, List.length_nil, hml]
  generalize hbd : (false || !decide (fitR 0 255 [g.width]) || !decide (fitR lo32 hi32 [g.low]) || !decide (fitR lo32 hi32 [g.high]) || !decide (fitR 0 255 [((g.l : Nat) : Int)])) = bd at S
  have hbd2 : bd = false ↔ (fitR 0 255 [g.width] ∧ fitR lo32 hi32 [g.low, g.high] ∧ fitR 0 255 [((g.l : Nat) : Int)]) := by
    rw [← hbd, nb, nb, nb, nb]; simp only [true_and, fitR_cons, fitR_nil, and_true, and_assoc]
  clear hbd
  refine LoopS_i (fun m s g' => ∃ (i : Nat) (bd : Bool), s = (⟨b1, 0, none⟩, ⟨b3, 0, none⟩, (i : Int), ()) ∧ i ≤ g.l ∧ m = g.l - i ∧
    (bd = false ↔ ((fitR 0 255 [g.width] ∧ fitR lo32 hi32 [g.low, g.high] ∧ fitR 0 255 [((g.l : Nat) : Int)]) ∧ ∀ n ∈ g.gr.nodes.take i, n.fit)) ∧
    Sep h no g' [ot b3 (hd ++ (g.gr.nodes.take i).flatMap Nd.encR) bd,
      blk b1 [.int .i64 g.width, .int .i64 g.low, .int .i64 g.high, .slice g.p g.l g.c, .int .i64 g.out]] [row g.p (nflat g.ns), nrows g.ns]) g.l
    ⟨0, bd, rfl, by omega, rfl, by rw [hbd2]; simp, by rw [List.take_zero, List.flatMap_nil, List.append_nil]; exact S⟩ ?_
  clear hbd2 S bd
  rintro m s g' ⟨i, bd, rfl, hi', rfl, hbd, S⟩
  unfold ref15_Encode_l7
  dsimp only
  have henc := encRs_length (g.gr.nodes.take i) fun n hn => hs.2 n (List.mem_of_mem_take hn)
  have hb8 : (g.gr.nodes.take i).length * 2 ^ 24 ≤ 1000 * 2 ^ 24 := Nat.mul_le_mul_right _ (by rw [List.length_take]; omega)
  have hb9 : (hd ++ (g.gr.nodes.take i).flatMap Nd.encR).length < 2 ^ 36 := by rw [List.length_append]; omega
  (repeat (first | ((with_reducible refine ldSlice_id ?_); refine ldSlice_i (S.cell 1 rfl rfl) ?_)))
  refine ifB_dec (fun hlt => ?_) (fun hge => ?_)
  · have hix : i < g.ns.length := by omega
    (repeat (first | ((with_reducible refine ldSlice_id ?_); refine ldSlice_i (S.cell 1 rfl rfl) ?_)))
    have hx := S.row 0 rfl
    obtain ⟨aa, ea⟩ := hx.some_of (by rw [nflat_length]; omega)
    rw [ea] at hx
    refine idxI_i ea rfl (by omega) ?_
    simp only [Int.toNat_natCast]
    refine ldNode hx (List.getElem?_eq_getElem hix) ?_
    have hmem : g.ns[i] ∈ g.ns := List.getElem_mem hix
    have hnd : g.gr.nodes[i]? = some g.ns[i].nd := by simp [Gv.gr, hix]
    generalize hnv : g.ns[i] = nv at hmem hnd
    have P1 := (S.into [0] [] [1]).oneOf 0 (f := nv.rows) (List.mem_map.2 ⟨_, hmem, rfl⟩)
    refine (onode_S P1 0 rfl (gok3 _ hmem) (hs.2 _ (List.mem_of_getElem? hnd)) (by omega)).mono ?_
    rintro _ _ ⟨rfl, S1⟩
    refine ⟨rfl, ?_⟩
    replace S := S.back [0] S1
    try dsimp only [merge, List.set, List.cons_append, List.nil_append] at S
    rw [wrap64_in (by omega)]
    have hin : i < g.gr.nodes.length := by simp [Gv.gr]; omega
    have hge : g.gr.nodes[i] = nv.nd := by rw [List.getElem?_eq_getElem hin] at hnd; exact Option.some.inj hnd
    have e1 : (g.gr.nodes.take (i + 1)).flatMap Nd.encR = (g.gr.nodes.take i).flatMap Nd.encR ++ nv.nd.encR := by
      rw [List.take_succ_eq_append_getElem hin, List.flatMap_append, hge]; simp
    refine ⟨g.l - (i + 1), by omega, i + 1, bd || !decide nv.nd.fit, rfl, by omega, rfl, ?_, ?_⟩
    · rw [Bool.or_eq_false_iff, hbd, Bool.not_eq_false', decide_eq_true_eq, List.take_succ_eq_append_getElem hin, hge, and_assoc]
      constructor
      · rintro ⟨h1, h2, h3⟩
        refine ⟨h1, fun n hn => ?_⟩
        rcases List.mem_append.1 hn with hn | hn
        · exact h2 n hn
        · simp only [List.mem_singleton] at hn; subst hn; exact h3
      · rintro ⟨h1, h2⟩; exact ⟨h1, fun n hn => h2 n (List.mem_append_left _ hn), h2 _ (List.mem_append_right _ (by simp))⟩
    · rw [e1, ← List.append_assoc]
      exact S
  · have hie : i = g.l := by omega
    subst hie
    have htk : g.gr.nodes.take g.l = g.gr.nodes := List.take_of_length_le (by simp [Gv.gr]; omega)
    rw [htk] at S hb9
    (repeat (first | ((with_reducible refine ldInt_id ?_); refine ldInt_i (S.cell 1 rfl rfl) ?_)))
    refine (obyt_S (S.into [0] [] []) g.out (by omega)).mono ?_
    rintro _ _ ⟨rfl, S1⟩
    refine ⟨rfl, ?_⟩
    replace S := S.back [0] S1
    try dsimp only [merge, List.set, List.cons_append, List.nil_append] at S
    (repeat (first | with_reducible refine nilI_some ?_ | ((with_reducible refine ldBool_id ?_); refine ldBool_i (S.cell 0 rfl rfl) ?_)))
    have e1 : (bd || !decide (fitR 0 255 [g.out])) = !decide g.gr.fit := by
      apply bool_ext
      rw [Bool.or_eq_false_iff, hbd, htk, Bool.not_eq_false', decide_eq_true_eq, Bool.not_eq_false', decide_eq_true_eq, ← gok1]
      simp only [Gr.fit, Gv.gr, List.length_map, and_assoc]
    rw [e1] at S ⊢
    by_cases hf : g.gr.fit
    · have eo : g.gr.out2 = (magic ++ g.gr.enc, 0) := by unfold Gr.out2; rw [if_pos hf]
      rw [eo]
      refine ifB_false (by simp [hf]) ?_
      (repeat (first | with_reducible refine nilI_some ?_ | ((with_reducible refine ldStr_id ?_); refine ldStr_i (S.cell 0 rfl rfl) ?_)))
      refine ⟨?_, S.fra⟩
      have : magic ++ g.gr.enc = hd ++ g.gr.nodes.flatMap Nd.encR ++ bytS [g.out] := by
        rw [← hhd, ← gok1, encRs_eq _ hf.2.2.2.1]
        simp only [Gr.enc, Gv.gr, List.length_map, List.append_assoc]
        simp [words, List.append_assoc]
      rw [this]
    · have eo : g.gr.out2 = ([], 22) := by unfold Gr.out2; rw [if_neg hf]
      rw [eo]
      exact ifB_true (by simp [hf]) ⟨rfl, S.fra⟩

end Go.Proofs.Ytdjofpdmdbcgjad.G
