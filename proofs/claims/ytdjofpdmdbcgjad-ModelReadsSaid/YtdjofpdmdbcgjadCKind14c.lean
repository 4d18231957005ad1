/- Contracts: the document's sized, Check, Width, rate. -/
import Derived.Test.YtdjofpdmdbcgjadCKind14b
namespace Go.Proofs.Ytdjofpdmdbcgjad.G
open Go Go.Sh
set_option linter.unusedVariables false
set_option linter.unusedSimpArgs false

section
variable {h : Heap}

set_option maxHeartbeats 1000000 in
theorem sized14_ok {nv : Nv} (hok : nv.ok) (hr : nv.rows.P h) (hlw : nv.weights.l < 2 ^ 62) (hlb : nv.bias.l < 2 ^ 62) {w : Int} (hw : 0 ≤ w ∧ w ≤ 16) : callP P n_ref14_sized #[nv.v, .int .i64 w] h fun v h' => v = .bool (decide (nv.nd.sized w)) ∧ Fra no h h' := by
  refine call_ref14_sized _ _ ?_
  unfold ref14_sized
  have lw := hok.2.1.1
  have lb := hok.2.2.1
  have S := (Sep.start h no).read nv.rows hr
  refine newI_S (cs := nv.cells) S fun b1 h1 _ S => ?_
  dsimp only [List.nil_append] at S
  have bad : ∀ g, Sep h no g [blk b1 nv.cells] [nv.rows] → ¬ nv.nd.sized w → Value.bool false = .bool (decide (nv.nd.sized w)) ∧ Fra no h g := fun g S hn => ⟨by rw [decide_eq_false hn], S.fra⟩
  have iff := sized_iff nv w
  have hlo : lo32 = -2147483648 := rfl
  have hhi : hi32 = 2147483647 := rfl
  (repeat (first | ((with_reducible refine ldInt_id ?_); refine ldInt_i (S.cell 0 rfl rfl) ?_)))
  try dsimp only [Nv.t]
  refine (four14_ok nv.kind).mono ?_
  rintro _ _ ⟨rfl, rfl⟩
  refine ⟨_, rfl, ?_⟩
  (repeat (first | ((with_reducible refine ldInt_id ?_); refine ldInt_i (S.cell 0 rfl rfl) ?_)))
  try dsimp only [Nv.t]
  refine (weighs14_ok nv.kind).mono ?_
  rintro _ _ ⟨rfl, rfl⟩
  refine ⟨_, rfl, ?_⟩
  (repeat (first | ((with_reducible refine ldInt_id ?_); refine ldInt_i (S.cell 0 rfl rfl) ?_)))
  try dsimp only [Nv.t]
  refine (in14_ok nv.size 1 8).mono ?_
  rintro _ _ ⟨rfl, rfl⟩
  refine ⟨_, rfl, ?_⟩
  refine ⟨fun s g => s = (w, ⟨b1, 0, none⟩, decide (four nv.kind), decide (wei nv.kind), ()) ∧ Sep h no g [blk b1 nv.cells] [nv.rows] ∧ (wins nv.kind → inR nv.size 1 8), ?_, ?_⟩
  · rintro s g ⟨rfl, S, f1⟩
    unfold ref14_sized_j6
    dsimp only
    (repeat (first | ((with_reducible refine ldInt_id ?_); refine ldInt_i (S.cell 0 rfl rfl) ?_)))
    try dsimp only [Nv.t]
    refine (in14_ok nv.step 1 4).mono ?_
    rintro _ _ ⟨rfl, rfl⟩
    refine ⟨_, rfl, ?_⟩
    (repeat (first | ((with_reducible refine ldInt_id ?_); refine ldInt_i (S.cell 0 rfl rfl) ?_)))
    try dsimp only [Nv.t]
    refine (in14_ok nv.gap 1 4).mono ?_
    rintro _ _ ⟨rfl, rfl⟩
    refine ⟨_, rfl, ?_⟩
    refine ⟨fun s g => s = (w, ⟨b1, 0, none⟩, decide (four nv.kind), decide (wei nv.kind), ()) ∧ Sep h no g [blk b1 nv.cells] [nv.rows] ∧ (four nv.kind → inR nv.step 1 4 ∧ inR nv.gap 1 4), ?_, ?_⟩
    · rintro s g ⟨rfl, S, f2⟩
      unfold ref14_sized_j10
      dsimp only
      refine ⟨fun s g => s = (w, ⟨b1, 0, none⟩, decide (wei nv.kind), ()) ∧ Sep h no g [blk b1 nv.cells] [nv.rows] ∧ (four nv.kind → (0 ≤ nv.left ∧ nv.left < nv.nd.span) ∧ (0 ≤ nv.right ∧ nv.right < nv.nd.span)), ?_, ?_⟩
      · rintro s g ⟨rfl, S, f3⟩
        unfold ref14_sized_j12
        dsimp only
        (repeat (first | ((with_reducible refine ldInt_id ?_); refine ldInt_i (S.cell 0 rfl rfl) ?_)))
        try dsimp only [Nv.t]
        refine (in14_ok nv.width 1 16).mono ?_
        rintro _ _ ⟨rfl, rfl⟩
        refine ⟨_, rfl, ?_⟩
        refine ⟨fun s g => s = (w, ⟨b1, 0, none⟩, decide (wei nv.kind), ()) ∧ Sep h no g [blk b1 nv.cells] [nv.rows] ∧ (wide nv.kind → inR nv.width 1 16), ?_, ?_⟩
        · rintro s g ⟨rfl, S, f4⟩
          unfold ref14_sized_j15
          dsimp only
          refine ⟨fun s g => s = (⟨b1, 0, none⟩, ()) ∧ Sep h no g [blk b1 nv.cells] [nv.rows] ∧ (wei nv.kind → (nv.weights.xs.length : Int) = nv.nd.wcount w ∧ (nv.bias.xs.length : Int) = (if nv.kind = 2 then w else nv.width) ∧ fitR (-128) 127 nv.weights.xs ∧ fitR (-16777216) 16777216 nv.bias.xs), ?_, ?_⟩
          · rintro s g ⟨rfl, S, f5⟩
            unfold ref14_sized_j23
            dsimp only
            have fin : ∀ b, b = decide (inR nv.mult 0 32767 ∧ inR nv.shift 0 30 ∧ inR nv.low lo32 hi32 ∧ inR nv.high lo32 hi32 ∧ nv.low ≤ nv.high) → Value.bool b = .bool (decide (nv.nd.sized w)) ∧ Fra no h g := by
              intro b hb
              refine ⟨?_, S.fra⟩
              congr 1
              rw [hb, decide_eq_decide, iff]
              exact ⟨fun h2 => ⟨f1, fun h => ⟨(f2 h).1, (f2 h).2, f3 h⟩, f4, f5, h2⟩, fun h2 => h2.2.2.2.2⟩
            (repeat (first | ((with_reducible refine ldInt_id ?_); refine ldInt_i (S.cell 0 rfl rfl) ?_)))
            try dsimp only [Nv.t]
            refine (in14_ok nv.mult 0 32767).mono ?_
            rintro _ _ ⟨rfl, rfl⟩
            refine ⟨_, rfl, ?_⟩
            (repeat (first | ((with_reducible refine ldInt_id ?_); refine ldInt_i (S.cell 0 rfl rfl) ?_)))
            try dsimp only [Nv.t]
            refine (in14_ok nv.shift 0 30).mono ?_
            rintro _ _ ⟨rfl, rfl⟩
            refine ⟨_, rfl, ?_⟩
            (repeat (first | ((with_reducible refine ldInt_id ?_); refine ldInt_i (S.cell 0 rfl rfl) ?_)))
            try dsimp only [Nv.t]
            refine (in14_ok nv.low (-2147483648) 2147483647).mono ?_
            rintro _ _ ⟨rfl, rfl⟩
            refine ⟨_, rfl, ?_⟩
            (repeat (first | ((with_reducible refine ldInt_id ?_); refine ldInt_i (S.cell 0 rfl rfl) ?_)))
            try dsimp only [Nv.t]
            refine (in14_ok nv.high (-2147483648) 2147483647).mono ?_
            rintro _ _ ⟨rfl, rfl⟩
            refine ⟨_, rfl, ?_⟩
            refine ifB_dec (fun h1 => ifB_dec (fun h2 => ifB_dec (fun h3 => ifB_dec (fun h4 => ?_) fun h4 => fin _ ?_) fun h3 => fin _ ?_) fun h2 => fin _ ?_) fun h1 => fin _ ?_
            · (repeat (first | ((with_reducible refine ldInt_id ?_); refine ldInt_i (S.cell 0 rfl rfl) ?_)))
              try dsimp only [Nv.t]
              exact fin _ (Bool.eq_iff_iff.2 ⟨fun h => decide_eq_true (by have := of_decide_eq_true h; omega), fun h => decide_eq_true (by have := of_decide_eq_true h; omega)⟩)
            all_goals (symm; rw [decide_eq_false_iff_not]; omega)
          · refine ifB_dec (fun hwe => ?_) (fun hwe => ⟨rfl, S, fun h => absurd h hwe⟩)
            (repeat (first | ((with_reducible refine ldInt_id ?_); refine ldInt_i (S.cell 0 rfl rfl) ?_)))
            try dsimp only [Nv.t]
            refine ⟨fun s g => s = (w, ⟨b1, 0, none⟩, (if nv.kind = 2 then w else nv.width), ()) ∧ Sep h no g [blk b1 nv.cells] [nv.rows], ?_, ?_⟩
            · rintro s g ⟨rfl, S⟩
              unfold ref14_sized_j19
              dsimp only
              have r1 : Row g nv.weights.p (ints nv.weights.xs) := S.readF 0 (l := [nv.inn.row, nv.weights.row, nv.bias.row]) (f := nv.weights.row) (by simp) rfl
              have r2 : Row g nv.bias.p (ints nv.bias.xs) := S.readF 0 (l := [nv.inn.row, nv.weights.row, nv.bias.row]) (f := nv.bias.row) (by simp) rfl
              (repeat (first | ((with_reducible refine ldSlice_id ?_); refine ldSlice_i (S.cell 0 rfl rfl) ?_)))
              try dsimp only [Nv.t]
              refine (all14_ok r1 lw hlw (-128) 127).mono ?_
              rintro _ _ ⟨rfl, rfl⟩
              refine ⟨_, rfl, ?_⟩
              (repeat (first | ((with_reducible refine ldSlice_id ?_); refine ldSlice_i (S.cell 0 rfl rfl) ?_)))
              try dsimp only [Nv.t]
              refine (all14_ok r2 lb hlb (-16777216) 16777216).mono ?_
              rintro _ _ ⟨rfl, rfl⟩
              refine ⟨_, rfl, ?_⟩
              (repeat (first | ((with_reducible refine ldSlice_id ?_); refine ldSlice_i (S.cell 0 rfl rfl) ?_) | ((with_reducible refine ldAg_id ?_); refine ldAg_S S 0 rfl rfl ?_)))
              try dsimp only [Nv.t]
              refine (weights14_ok nv hw (by omega) (by omega)).mono ?_
              rintro _ _ ⟨rfl, F⟩
              refine ⟨_, rfl, ?_⟩
              replace S := S.fra0 F
              (repeat (first | ((with_reducible refine and_id ?_); refine and_i (S.cell 0 rfl rfl) ?_)))
              try dsimp only [Nv.t]
              refine ifB_bne (fun h3 => bad _ S (by rw [iff]; omega)) fun h3 => ?_
              (repeat (first | ((with_reducible refine ldSlice_id ?_); refine ldSlice_i (S.cell 0 rfl rfl) ?_)))
              try dsimp only [Nv.t]
              refine ifB_bne (fun h4 => bad _ S (by rw [iff]; omega)) fun h4 => ifB_not (ifB_dec (fun h5 => ifB_not (ifB_dec (fun h6 => ⟨rfl, S, fun _ => ⟨by omega, by omega, h5, h6⟩⟩) fun h6 => bad _ S (by rw [iff]; exact fun h => h6 (h.2.2.2.1 hwe).2.2.2)) ) fun h5 => bad _ S (by rw [iff]; exact fun h => h5 (h.2.2.2.1 hwe).2.2.1))
            · (repeat (first | ((with_reducible refine ldInt_id ?_); refine ldInt_i (S.cell 0 rfl rfl) ?_)))
              try dsimp only [Nv.t]
              refine ifB_beq (fun h3 => ⟨by rw [if_pos h3], S⟩) (fun h3 => ⟨by rw [if_neg h3], S⟩)
        · (repeat (first | ((with_reducible refine ldInt_id ?_); refine ldInt_i (S.cell 0 rfl rfl) ?_)))
          try dsimp only [Nv.t]
          refine ifB_beq (fun h3 => ifB_not (ifB_dec (fun h4 => ⟨rfl, S, fun _ => h4⟩) fun h4 => bad _ S (by rw [iff]; omega))) (fun h3 => ?_)
          (repeat (first | ((with_reducible refine ldInt_id ?_); refine ldInt_i (S.cell 0 rfl rfl) ?_)))
          try dsimp only [Nv.t]
          exact ifB_beq (fun h5 => ifB_not (ifB_dec (fun h4 => ⟨rfl, S, fun _ => h4⟩) fun h4 => bad _ S (by rw [iff]; omega))) (fun h5 => ⟨rfl, S, fun h => by omega⟩)
      · refine ifB_dec (fun ho => ?_) (fun ho => ⟨rfl, S, fun h => absurd h ho⟩)
        have f1' := f1 (.inl ho)
        have f2' := f2 ho
        (repeat (first | ((with_reducible refine ldInt_id ?_); refine ldInt_i (S.cell 0 rfl rfl) ?_)))
        try dsimp only [Nv.t]
        refine ifB_dec (fun h3 => bad _ S (by rw [iff]; omega)) (fun h3 => ?_)
        (repeat (first | ((with_reducible refine ldInt_id ?_); refine ldInt_i (S.cell 0 rfl rfl) ?_) | ((with_reducible refine ldAg_id ?_); refine ldAg_S S 0 rfl rfl ?_)))
        try dsimp only [Nv.t]
        refine (Span14_ok nv (by omega) (by omega)).mono ?_
        rintro _ _ ⟨rfl, F⟩
        refine ⟨_, rfl, ?_⟩
        replace S := S.fra0 F
        (repeat (first | ((with_reducible refine and_id ?_); refine and_i (S.cell 0 rfl rfl) ?_)))
        try dsimp only [Nv.t]
        refine ifB_dec (fun h4 => ?_) (fun h4 => ?_)
        · (repeat (first | ((with_reducible refine and_id ?_); refine and_i (S.cell 0 rfl rfl) ?_)))
          exact bad _ S (by rw [iff]; omega)
        · (repeat (first | ((with_reducible refine ldInt_id ?_); refine ldInt_i (S.cell 0 rfl rfl) ?_)))
          try dsimp only [Nv.t]
          refine ifB_dec (fun h5 => ?_) (fun h5 => ?_)
          · (repeat (first | ((with_reducible refine and_id ?_); refine and_i (S.cell 0 rfl rfl) ?_)))
            exact bad _ S (by rw [iff]; omega)
          · (repeat (first | ((with_reducible refine ldInt_id ?_); refine ldInt_i (S.cell 0 rfl rfl) ?_) | ((with_reducible refine ldAg_id ?_); refine ldAg_S S 0 rfl rfl ?_)))
            try dsimp only [Nv.t]
            refine (Span14_ok nv (by omega) (by omega)).mono ?_
            rintro _ _ ⟨rfl, F⟩
            refine ⟨_, rfl, ?_⟩
            replace S := S.fra0 F
            (repeat (first | ((with_reducible refine and_id ?_); refine and_i (S.cell 0 rfl rfl) ?_)))
            try dsimp only [Nv.t]
            exact ifB_dec (fun h6 => bad _ S (by rw [iff]; omega)) (fun h6 => ⟨rfl, S, fun _ => by omega⟩)
    · exact ifB_dec (fun ho => ifB_not (ifB_dec (fun h3 => ifB_not (ifB_dec (fun h4 => ⟨rfl, S, fun _ => ⟨h3, h4⟩⟩) fun h4 => bad _ S (by rw [iff]; omega))) fun h3 => bad _ S (by rw [iff]; omega))) (fun ho => ⟨rfl, S, fun h => absurd h ho⟩)
  · refine ifB_dec (fun ho => ifB_not (ifB_dec (fun h3 => ⟨rfl, S, fun _ => h3⟩) fun h3 => bad _ S (by rw [iff]; omega))) (fun ho => ?_)
    (repeat (first | ((with_reducible refine ldInt_id ?_); refine ldInt_i (S.cell 0 rfl rfl) ?_)))
    try dsimp only [Nv.t]
    exact ifB_beq (fun h5 => ifB_not (ifB_dec (fun h3 => ⟨rfl, S, fun _ => h3⟩) fun h3 => bad _ S (by rw [iff]; omega))) (fun h5 => ⟨rfl, S, fun h => by omega⟩)
end

end Go.Proofs.Ytdjofpdmdbcgjad.G
