/- Contracts: the document's Check and Width of nodes. -/
import Derived.Test.YtdjofpdmdbcgjadCKind14
namespace Go.Proofs.Ytdjofpdmdbcgjad.G
open Go Go.Sh
set_option linter.unusedVariables false
set_option linter.unusedSimpArgs false

theorem else0_iff (nv : Nv) : nv.nd.else0 ↔ ((¬ four nv.kind → nv.step = 0 ∧ nv.gap = 0 ∧ nv.left = 0 ∧ nv.right = 0) ∧ (¬ four nv.kind ∧ nv.kind ≠ 12 → nv.size = 0) ∧ (¬ wide nv.kind → nv.width = 0) ∧ (¬ wei nv.kind → nv.weights.xs.length = 0 ∧ nv.bias.xs.length = 0) ∧
    (scl nv.kind nv.post ∨ (nv.mult = 0 ∧ nv.shift = 0)) ∧ (clm nv.kind nv.post ∨ (nv.low = 0 ∧ nv.high = 0))) := Iff.rfl
theorem sized_iff (nv : Nv) (w : Int) : nv.nd.sized w ↔ ((wins nv.kind → inR nv.size 1 8) ∧ (four nv.kind → inR nv.step 1 4 ∧ inR nv.gap 1 4 ∧ (0 ≤ nv.left ∧ nv.left < nv.nd.span) ∧ (0 ≤ nv.right ∧ nv.right < nv.nd.span)) ∧ (wide nv.kind → inR nv.width 1 16) ∧
    (wei nv.kind → (nv.weights.xs.length : Int) = nv.nd.wcount w ∧ (nv.bias.xs.length : Int) = (if nv.kind = 2 then w else nv.width) ∧ fitR (-128) 127 nv.weights.xs ∧ fitR (-16777216) 16777216 nv.bias.xs) ∧
    (inR nv.mult 0 32767 ∧ inR nv.shift 0 30 ∧ inR nv.low lo32 hi32 ∧ inR nv.high lo32 hi32 ∧ nv.low ≤ nv.high)) := Iff.rfl

section
variable {h : Heap}

theorem else0_14_ok {nv : Nv} (hok : nv.ok) : callP P n_ref14_else0 #[nv.v] h fun v h' => v = .bool (decide nv.nd.else0) ∧ Fra no h h' := by
  refine call_ref14_else0 _ ?_
  unfold ref14_else0
  have lw := hok.2.1.1
  have lb := hok.2.2.1
  have S := Sep.start h no
  refine newI_S (cs := nv.cells) S fun b1 h1 _ S => ?_
  dsimp only [List.nil_append] at S
  have bad : ∀ g, Sep h no g [blk b1 nv.cells] [] → ¬ nv.nd.else0 → Value.bool false = .bool (decide nv.nd.else0) ∧ Fra no h g := fun g S hn => ⟨by rw [decide_eq_false hn], S.fra⟩
  have iff := else0_iff nv
  (repeat (first | ((with_reducible refine ldInt_id ?_); refine ldInt_i (S.cell 0 rfl rfl) ?_)))
  dsimp only [Nv.t]
  refine (four14_ok nv.kind).mono ?_
  rintro _ _ ⟨rfl, rfl⟩
  refine ⟨_, rfl, ?_⟩
  (repeat (first | ((with_reducible refine ldInt_id ?_); refine ldInt_i (S.cell 0 rfl rfl) ?_)))
  dsimp only [Nv.t]
  refine (weighs14_ok nv.kind).mono ?_
  rintro _ _ ⟨rfl, rfl⟩
  refine ⟨_, rfl, ?_⟩
  refine ⟨fun s g => s = (⟨b1, 0, none⟩, decide (four nv.kind), decide (wei nv.kind), decide (wide nv.kind), ()) ∧ Sep h no g [blk b1 nv.cells] [], ?_, ?_⟩
  · rintro s g ⟨rfl, S⟩
    unfold ref14_else0_j4
    dsimp only
    refine ⟨fun s g => s = (⟨b1, 0, none⟩, decide (four nv.kind), decide (wei nv.kind), decide (wide nv.kind), decide (scl nv.kind nv.post), ()) ∧ Sep h no g [blk b1 nv.cells] [], ?_, ?_⟩
    · rintro s g ⟨rfl, S⟩
      unfold ref14_else0_j5
      dsimp only
      refine ⟨fun s g => s = (⟨b1, 0, none⟩, decide (four nv.kind), decide (wei nv.kind), decide (wide nv.kind), decide (scl nv.kind nv.post), decide (clm nv.kind nv.post), ()) ∧ Sep h no g [blk b1 nv.cells] [], ?_, ?_⟩
      · rintro s g ⟨rfl, S⟩
        unfold ref14_else0_j6
        dsimp only
        refine ⟨fun s g => s = (⟨b1, 0, none⟩, decide (four nv.kind), decide (wei nv.kind), decide (wide nv.kind), decide (scl nv.kind nv.post), decide (clm nv.kind nv.post), ()) ∧ Sep h no g [blk b1 nv.cells] [] ∧ (¬ four nv.kind → nv.step = 0 ∧ nv.gap = 0 ∧ nv.left = 0 ∧ nv.right = 0), ?_, ?_⟩
        · rintro s g ⟨rfl, S, f1⟩
          unfold ref14_else0_j8
          dsimp only
          refine ⟨fun s g => s = (⟨b1, 0, none⟩, decide (wei nv.kind), decide (scl nv.kind nv.post), decide (clm nv.kind nv.post), ()) ∧ Sep h no g [blk b1 nv.cells] [] ∧ (¬ four nv.kind ∧ nv.kind ≠ 12 → nv.size = 0) ∧ (¬ wide nv.kind → nv.width = 0), ?_, ?_⟩
          · rintro s g ⟨rfl, S, f2, f3⟩
            unfold ref14_else0_j10
            dsimp only
            refine ⟨fun s g => s = (⟨b1, 0, none⟩, decide (scl nv.kind nv.post), decide (clm nv.kind nv.post), ()) ∧ Sep h no g [blk b1 nv.cells] [] ∧ (¬ wei nv.kind → nv.weights.xs.length = 0 ∧ nv.bias.xs.length = 0), ?_, ?_⟩
            · rintro s g ⟨rfl, S, f4⟩
              unfold ref14_else0_j12
              dsimp only
              have fin : (scl nv.kind nv.post ∨ (nv.mult = 0 ∧ nv.shift = 0)) → ∀ b, b = decide (clm nv.kind nv.post ∨ (nv.low = 0 ∧ nv.high = 0)) → Value.bool b = .bool (decide nv.nd.else0) ∧ Fra no h g := by
                intro h1 b hb
                refine ⟨?_, S.fra⟩
                congr 1
                rw [hb, decide_eq_decide, iff]
                exact ⟨fun h2 => ⟨f1, f2, f3, f4, h1, h2⟩, fun h2 => h2.2.2.2.2.2⟩
              have fin2 : ¬ (scl nv.kind nv.post ∨ (nv.mult = 0 ∧ nv.shift = 0)) → Value.bool false = .bool (decide nv.nd.else0) ∧ Fra no h g := fun h1 => bad g S fun h2 => h1 (iff.1 h2).2.2.2.2.1
              have c10 : cellH g (Addr.add ⟨b1, 0, none⟩ 10) = some (.int .i64 nv.mult) := S.cell 0 rfl rfl
              have c11 : cellH g (Addr.add ⟨b1, 0, none⟩ 11) = some (.int .i64 nv.shift) := S.cell 0 rfl rfl
              have c12 : cellH g (Addr.add ⟨b1, 0, none⟩ 12) = some (.int .i64 nv.low) := S.cell 0 rfl rfl
              have c13 : cellH g (Addr.add ⟨b1, 0, none⟩ 13) = some (.int .i64 nv.high) := S.cell 0 rfl rfl
              refine ifB_dec (fun hs => ifB_dec (fun hc => fin (.inl hs) _ ?_) fun hc => ldInt_i c12 (ifB_beq (fun h3 => ldInt_i c13 (fin (.inl hs) _ ?_)) fun h3 => fin (.inl hs) _ ?_)) fun hs => ldInt_i c10 (ifB_beq (fun h5 => ldInt_i c11 (ifB_beq (fun h6 => ifB_dec (fun hc => fin (.inr ⟨h5, h6⟩) _ ?_) fun hc => ldInt_i c12 (ifB_beq (fun h3 => ldInt_i c13 (fin (.inr ⟨h5, h6⟩) _ ?_)) fun h3 => fin (.inr ⟨h5, h6⟩) _ ?_)) fun h6 => fin2 (by omega))) fun h5 => fin2 (by omega))
              all_goals first
                | (symm; rw [decide_eq_true_iff]; omega)
                | (symm; rw [decide_eq_false_iff_not]; omega)
                | (rw [Bool.eq_iff_iff, decide_eq_true_iff, beq_iff_eq]; omega)
            · refine ifB_not (ifB_dec (fun hw => ⟨rfl, S, fun h => absurd hw h⟩) fun hw => ?_)
              (repeat (first | ((with_reducible refine ldSlice_id ?_); refine ldSlice_i (S.cell 0 rfl rfl) ?_)))
              dsimp only [Nv.t]
              refine ifB_dec (fun h3 => bad _ S (by rw [iff]; omega)) fun h3 => ?_
              (repeat (first | ((with_reducible refine ldSlice_id ?_); refine ldSlice_i (S.cell 0 rfl rfl) ?_)))
              dsimp only [Nv.t]
              exact ifB_dec (fun h4 => bad _ S (by rw [iff]; omega)) fun h4 => ⟨rfl, S, fun _ => by omega⟩
          · have c2 : cellH g (Addr.add ⟨b1, 0, none⟩ 2) = some (.int .i64 nv.width) := S.cell 0 rfl rfl
            have c3 : cellH g (Addr.add ⟨b1, 0, none⟩ 3) = some (.int .i64 nv.size) := S.cell 0 rfl rfl
            have c0 : cellH g ⟨b1, 0, none⟩ = some (.int .i64 nv.kind) := S.cell 0 rfl rfl
            have tail : (¬ four nv.kind ∧ nv.kind ≠ 12 → nv.size = 0) → ifB (!decide (wide nv.kind)) (ldInt .i64 g (Addr.add ⟨b1, 0, none⟩ 2) fun n33 => ifB (n33 != 0) (Value.bool false = .bool (decide nv.nd.else0) ∧ Fra no h g)
                ((((⟨b1, 0, none⟩ : Addr), decide (wei nv.kind), decide (scl nv.kind nv.post), decide (clm nv.kind nv.post), ()) : Addr × Bool × Bool × Bool × Unit) = (⟨b1, 0, none⟩, decide (wei nv.kind), decide (scl nv.kind nv.post), decide (clm nv.kind nv.post), ()) ∧ Sep h no g [blk b1 nv.cells] [] ∧ (¬ four nv.kind ∧ nv.kind ≠ 12 → nv.size = 0) ∧ (¬ wide nv.kind → nv.width = 0)))
                ((((⟨b1, 0, none⟩ : Addr), decide (wei nv.kind), decide (scl nv.kind nv.post), decide (clm nv.kind nv.post), ()) : Addr × Bool × Bool × Bool × Unit) = (⟨b1, 0, none⟩, decide (wei nv.kind), decide (scl nv.kind nv.post), decide (clm nv.kind nv.post), ()) ∧ Sep h no g [blk b1 nv.cells] [] ∧ (¬ four nv.kind ∧ nv.kind ≠ 12 → nv.size = 0) ∧ (¬ wide nv.kind → nv.width = 0)) := by
              intro f2
              refine ifB_not (ifB_dec (fun hw => ⟨rfl, S, f2, fun h => absurd hw h⟩) fun hw => ldInt_i c2 (ifB_bne (fun h3 => bad _ S (by rw [iff]; omega)) fun h3 => ⟨rfl, S, f2, fun _ => h3⟩))
            refine ifB_not (ifB_dec (fun ho => tail (by omega)) fun ho => ldInt_i c0 (ifB_bne (fun h3 => ldInt_i c3 (ifB_bne (fun h4 => bad _ S (by rw [iff]; omega)) fun h4 => tail (by omega))) fun h3 => tail (by omega)))
        · have c4 : cellH g (Addr.add ⟨b1, 0, none⟩ 4) = some (.int .i64 nv.step) := S.cell 0 rfl rfl
          have c5 : cellH g (Addr.add ⟨b1, 0, none⟩ 5) = some (.int .i64 nv.gap) := S.cell 0 rfl rfl
          have c6 : cellH g (Addr.add ⟨b1, 0, none⟩ 6) = some (.int .i64 nv.left) := S.cell 0 rfl rfl
          have c7 : cellH g (Addr.add ⟨b1, 0, none⟩ 7) = some (.int .i64 nv.right) := S.cell 0 rfl rfl
          refine ifB_not (ifB_dec (fun ho => ⟨rfl, S, fun h => absurd ho h⟩) fun ho => ldInt_i c4 (ifB_bne (fun h3 => bad _ S (by rw [iff]; omega)) fun h3 => ldInt_i c5 (ifB_bne (fun h4 => bad _ S (by rw [iff]; omega)) fun h4 => ldInt_i c6 (ifB_bne (fun h5 => bad _ S (by rw [iff]; omega)) fun h5 =>
            ldInt_i c7 (ifB_bne (fun h6 => bad _ S (by rw [iff]; omega)) fun h6 => ⟨rfl, S, fun _ => ⟨h3, h4, h5, h6⟩⟩)))))
      · have c0 : cellH g ⟨b1, 0, none⟩ = some (.int .i64 nv.kind) := S.cell 0 rfl rfl
        have c14 : cellH g (Addr.add ⟨b1, 0, none⟩ 14) = some (.int .i64 nv.post) := S.cell 0 rfl rfl
        refine ldInt_i c0 (ifB_beq (fun h3 => ⟨?_, S⟩) fun h3 => ldInt_i c14 ⟨?_, S⟩)
        · rw [decide_eq_true (show clm nv.kind nv.post from .inl h3)]
        · have : decide (clm nv.kind nv.post) = (andI .i64 nv.post 2 == 2) := by rw [Bool.eq_iff_iff, decide_eq_true_iff, beq_iff_eq]; omega
          rw [this]
    · have c0 : cellH g ⟨b1, 0, none⟩ = some (.int .i64 nv.kind) := S.cell 0 rfl rfl
      have c14 : cellH g (Addr.add ⟨b1, 0, none⟩ 14) = some (.int .i64 nv.post) := S.cell 0 rfl rfl
      refine ldInt_i c0 (ifB_beq (fun h3 => ⟨?_, S⟩) fun h3 => ldInt_i c14 ⟨?_, S⟩)
      · rw [decide_eq_true (show scl nv.kind nv.post from .inl h3)]
      · have : decide (scl nv.kind nv.post) = (andI .i64 nv.post 1 == 1) := by rw [Bool.eq_iff_iff, decide_eq_true_iff, beq_iff_eq]; omega
        rw [this]
  · (repeat (first | ((with_reducible refine ldInt_id ?_); refine ldInt_i (S.cell 0 rfl rfl) ?_)))
    dsimp only [Nv.t]
    refine ifB_beq (fun h3 => ⟨?_, S⟩) fun h3 => ?_
    · rw [decide_eq_true (show wide nv.kind from .inl h3)]
    · (repeat (first | ((with_reducible refine ldInt_id ?_); refine ldInt_i (S.cell 0 rfl rfl) ?_)))
      dsimp only [Nv.t]
      have : decide (wide nv.kind) = (nv.kind == 6) := by rw [Bool.eq_iff_iff, decide_eq_true_iff, beq_iff_eq]; omega
      rw [this]
      exact ⟨rfl, S⟩
end

end Go.Proofs.Ytdjofpdmdbcgjad.G
