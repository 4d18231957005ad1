/- Contracts: the document's Check, Width, rate. -/
import Derived.Test.YtdjofpdmdbcgjadCKind14c
namespace Go.Proofs.Ytdjofpdmdbcgjad.G
open Go Go.Sh
set_option linter.unusedVariables false
set_option linter.unusedSimpArgs false

/-- How seldom a node comes, over inputs of some rates; below 0: they may not be. -/
def rateN (n : Nd) (rs : List Int) : Int :=
  if ¬ (∀ x ∈ rs, x = rs.getD 0 0) then -1 else if rs.getD 0 0 = 0 ∧ (wins n.kind ∨ n.kind = 5) then -1 else if n.kind = 5 then 0 else rs.getD 0 0 * stepN n.kind n.step

theorem getD_eq {xs : List Int} {i : Nat} (h : i < xs.length) : xs.getD i 0 = xs[i] := by rw [List.getD_eq_getElem?_getD, List.getElem?_eq_getElem h]; rfl

section
variable {h : Heap}

theorem Check14_ok {nv : Nv} (hok : nv.ok) (hr : nv.rows.P h) (hli : nv.inn.l < 2 ^ 62) (hlw : nv.weights.l < 2 ^ 62) (hlb : nv.bias.l < 2 ^ 62) {p : Option Addr} {l c : Nat} {ws : List Int} (hw : Row h p (ints ws)) (hl : ws.length = l) (hl2 : l < 2 ^ 56) :
    callP P n_ref14_Check #[nv.v, .slice p l c] h fun v h' => v = .int .i64 (nv.nd.chk ws) ∧ Fra no h h' := by
  refine call_ref14_Check _ _ _ _ ?_
  unfold ref14_Check
  have li := hok.1.1
  have eli : nv.nd.inn.length = nv.inn.l := li
  have S := ((Sep.start h no).read nv.rows hr).read (row p (ints ws)) hw
  refine newI_S (cs := nv.cells) S fun b1 h1 _ S => ?_
  dsimp only [List.nil_append, List.cons_append] at S
  refine (all14_ok (S.row 1 rfl) hl (by omega) 1 16).mono ?_
  rintro _ _ ⟨rfl, rfl⟩
  refine ⟨_, rfl, ?_⟩
  have ret1 : (ws.length ≠ nv.nd.inn.length ∨ ¬ fitR 1 16 ws) → ∀ g, Sep h no g [blk b1 nv.cells] [nv.rows, row p (ints ws)] → Value.int .i64 1 = .int .i64 (nv.nd.chk ws) ∧ Fra no h g := fun hn g S => ⟨by unfold Nd.chk; rw [if_pos hn], S.fra⟩
  refine ⟨fun s g => s = ((p, l, c), ⟨b1, 0, none⟩, ()) ∧ Sep h no g [blk b1 nv.cells] [nv.rows, row p (ints ws)] ∧ ¬ (ws.length ≠ nv.nd.inn.length ∨ ¬ fitR 1 16 ws), ?_, ?_⟩
  · rintro s g ⟨rfl, S, n1⟩
    unfold ref14_Check_j4
    dsimp only
    have hfit : fitR 1 16 ws := by apply Decidable.byContradiction; intro h; exact n1 (.inr h)
    have ret12 : (¬ inR nv.kind 1 12 ∨ (many nv.kind ∧ ¬ (2 ≤ ws.length ∧ ws.length ≤ 4)) ∨ (¬ many nv.kind ∧ ws.length ≠ 1) ∨ ¬ inR nv.post 0 3 ∨ (nv.post ≠ 0 ∧ ¬ wei nv.kind) ∨ ¬ nv.nd.else0) → ∀ g, Sep h no g [blk b1 nv.cells] [nv.rows, row p (ints ws)] → Value.int .i64 12 = .int .i64 (nv.nd.chk ws) ∧ Fra no h g :=
      fun hn g S => ⟨by unfold Nd.chk; rw [if_neg n1]; exact congrArg _ (if_pos hn).symm, S.fra⟩
    (repeat (first | ((with_reducible refine ldInt_id ?_); refine ldInt_i (S.cell 0 rfl rfl) ?_)))
    try dsimp only [Nv.t]
    refine (in14_ok nv.kind 1 12).mono ?_
    rintro _ _ ⟨rfl, rfl⟩
    refine ⟨_, rfl, ?_⟩
    (repeat (first | ((with_reducible refine ldInt_id ?_); refine ldInt_i (S.cell 0 rfl rfl) ?_)))
    try dsimp only [Nv.t]
    refine (Many14_ok nv.kind).mono ?_
    rintro _ _ ⟨rfl, rfl⟩
    refine ⟨_, rfl, ?_⟩
    (repeat (first | ((with_reducible refine ldInt_id ?_); refine ldInt_i (S.cell 0 rfl rfl) ?_)))
    try dsimp only [Nv.t]
    refine (weighs14_ok nv.kind).mono ?_
    rintro _ _ ⟨rfl, rfl⟩
    refine ⟨_, rfl, ?_⟩
    refine ⟨fun s g => s = ((p, l, c), ⟨b1, 0, none⟩, decide (wei nv.kind), ()) ∧ Sep h no g [blk b1 nv.cells] [nv.rows, row p (ints ws)] ∧ inR nv.kind 1 12 ∧ (many nv.kind → 2 ≤ ws.length ∧ ws.length ≤ 4) ∧ (¬ many nv.kind → ws.length = 1), ?_, ?_⟩
    · rintro s g ⟨rfl, S, k1, k2, k3⟩
      unfold ref14_Check_j9
      dsimp only
      refine ⟨fun s g => s = ((p, l, c), ⟨b1, 0, none⟩, ()) ∧ Sep h no g [blk b1 nv.cells] [nv.rows, row p (ints ws)] ∧ inR nv.post 0 3 ∧ (nv.post ≠ 0 → wei nv.kind), ?_, ?_⟩
      · rintro s g ⟨rfl, S, k4, k5⟩
        unfold ref14_Check_j11
        dsimp only
        (repeat (first | ((with_reducible refine ldAg_id ?_); refine ldAg_S S 0 rfl rfl ?_)))
        refine (else0_14_ok hok).mono ?_
        rintro _ _ ⟨rfl, F⟩
        refine ⟨_, rfl, ?_⟩
        replace S := S.fra0 F
        refine ifB_not (ifB_dec (fun k6 => ?_) (fun k6 => ret12 (.inr (.inr (.inr (.inr (.inr k6))))) _ S))
        have hl1 : 1 ≤ ws.length := by omega
        have hx := S.row 1 rfl
        obtain ⟨aa, rfl⟩ := hx.some_of (by rw [ints_length]; omega)
        refine idxI_i rfl (k := 0) rfl (by omega) ?_
        (repeat (first | ((with_reducible refine ldAg_id ?_); refine ldAg_S S 0 rfl rfl ?_)))
        have e0 : ws.getD 0 0 = ws[0] := getD_eq hl1
        refine ldInt_i (n := ws.getD 0 0) (hx.cell (i := 0) (ints_get (by rw [List.getElem?_eq_getElem (by omega), e0]))) ?_
        have hw0 := hfit ws[0] (List.getElem_mem _)
        rw [← e0] at hw0
        have nk12 : ¬ (¬ inR nv.nd.kind 1 12 ∨ (many nv.nd.kind ∧ ¬ (2 ≤ ws.length ∧ ws.length ≤ 4)) ∨ (¬ many nv.nd.kind ∧ ws.length ≠ 1) ∨ ¬ inR nv.nd.post 0 3 ∨ (nv.nd.post ≠ 0 ∧ ¬ wei nv.nd.kind) ∨ ¬ nv.nd.else0) := by
          have ek : nv.nd.kind = nv.kind := rfl
          have ep : nv.nd.post = nv.post := rfl
          rw [ek, ep]
          rintro (h | h | h | h | h | h)
          · exact h k1
          · exact h.2 (k2 h.1)
          · exact h.2 (k3 h.1)
          · exact h k4
          · exact h.2 (k5 h.1)
          · exact h k6
        refine (sized14_ok hok (S.r 0 _ rfl) hlw hlb (by omega)).mono ?_
        rintro _ _ ⟨rfl, F⟩
        refine ⟨_, rfl, ?_⟩
        replace S := S.fra0 F
        refine ifB_not (ifB_dec (fun k7 => ?_) (fun k7 => ⟨by unfold Nd.chk; rw [if_neg n1, if_neg nk12, if_pos k7], S.fra⟩))
        have nk22 : ¬ ¬ nv.nd.sized (ws.getD 0 0) := fun h => h k7
        refine LoopS_i (fun m s g => ∃ i : Nat, s = ((some aa, l, c), ⟨b1, 0, none⟩, sumI (ws.take i), (i : Int), ()) ∧ i ≤ l ∧ m = l - i ∧ (nv.kind = 7 → ∀ x ∈ ws.take i, x = ws.getD 0 0) ∧ Sep h no g [blk b1 nv.cells] [nv.rows, row (some aa) (ints ws)]) l ⟨0, rfl, by omega, rfl, by simp, S⟩ ?_
        rintro m s g ⟨i, rfl, hi', rfl, h7, S⟩
        unfold ref14_Check_l19
        dsimp only
        refine ifB_dec (fun hlt => ?_) (fun hge => ?_)
        · have hix : i < ws.length := by omega
          have hc := (S.row 1 rfl).cell (ints_get (List.getElem?_eq_getElem hix))
          have hc0 : cellH g (Addr.add aa 0) = some (.int .i64 (ws.getD 0 0)) := (S.row 1 rfl).cell (i := 0) (ints_get (by rw [List.getElem?_eq_getElem (by omega), e0]))
          refine idxI_i rfl rfl (by omega) ?_
          simp only [Int.toNat_natCast, Nat.mul_one]
          refine ldInt_i hc ?_
          (repeat (first | ((with_reducible refine ldInt_id ?_); refine ldInt_i (S.cell 0 rfl rfl) ?_)))
          try dsimp only [Nv.t]
          have hsr := sumI_range (fitR_take i hfit)
          rw [List.length_take] at hsr
          have hxi := hfit ws[i] (List.getElem_mem hix)
          rw [wrap64_in (n := sumI (ws.take i) + ws[i]) (by omega), wrap64_in (n := (i : Int) + 1) (by omega), ← sumI_snoc hix]
          refine ifB_beq (fun h8 => ?_) (fun h8 => ?_)
          · refine idxI_i rfl rfl (by omega) (idxI_i rfl (k := 0) rfl (by omega) ?_)
            refine ldInt_i hc (ldInt_i hc0 (ifB_bne (fun h9 => ⟨?_, S.fra⟩) (fun h9 => ?_)))
            · have h77 : nv.nd.kind = 7 ∧ ¬ ∀ x ∈ ws, x = ws.getD 0 0 := ⟨h8, fun h => h9 (h _ (List.getElem_mem hix))⟩
              unfold Nd.chk; rw [if_neg n1, if_neg nk12, if_neg nk22, if_pos h77]
            · refine ⟨l - (i + 1), by omega, i + 1, by trivial, by omega, rfl, fun _ x hx => ?_, S⟩
              rw [List.take_succ_eq_append_getElem hix] at hx
              rcases List.mem_append.1 hx with hx | hx
              · exact h7 h8 x hx
              · simp only [List.mem_singleton] at hx; subst hx; exact h9
          · exact ⟨l - (i + 1), by omega, i + 1, rfl, by omega, rfl, fun h => absurd h h8, S⟩
        · rw [List.take_of_length_le (by omega)] at h7 ⊢
          have n14 : ¬ (nv.nd.kind = 7 ∧ ¬ ∀ x ∈ ws, x = ws.getD 0 0) := fun h => h.2 (h7 h.1)
          (repeat (first | ((with_reducible refine ldInt_id ?_); refine ldInt_i (S.cell 0 rfl rfl) ?_)))
          try dsimp only [Nv.t]
          refine ifB_beq (fun h8 => ifB_dec (fun h9 => ⟨?_, S.fra⟩) (fun h9 => ⟨?_, S.fra⟩)) (fun h8 => ⟨?_, S.fra⟩)
          · have h88 : nv.nd.kind = 8 ∧ sumI ws > 16 := ⟨h8, h9⟩
            unfold Nd.chk; rw [if_neg n1, if_neg nk12, if_neg nk22, if_neg n14, if_pos h88]
          · have h88 : ¬ (nv.nd.kind = 8 ∧ sumI ws > 16) := fun h => h9 h.2
            unfold Nd.chk; rw [if_neg n1, if_neg nk12, if_neg nk22, if_neg n14, if_neg h88]
          · have h88 : ¬ (nv.nd.kind = 8 ∧ sumI ws > 16) := fun h => h8 h.1
            unfold Nd.chk; rw [if_neg n1, if_neg nk12, if_neg nk22, if_neg n14, if_neg h88]
      · have c14 : cellH g (Addr.add ⟨b1, 0, none⟩ 14) = some (.int .i64 nv.post) := S.cell 0 rfl rfl
        refine ldInt_i c14 (ifB_dec (fun h3 => ret12 (by omega) _ S) fun h3 => ldInt_i c14 (ifB_dec (fun h4 => ret12 (by omega) _ S) fun h4 => ldInt_i c14 (ifB_bne (fun h5 => ifB_not (ifB_dec (fun h6 => ⟨rfl, S, by omega, fun _ => h6⟩) fun h6 => ret12 (by omega) _ S)) fun h5 => ⟨rfl, S, by omega, fun h => absurd h5 h⟩)))
    · refine ifB_not (ifB_dec (fun h3 => ?_) (fun h3 => ret12 (.inl h3) _ S))
      refine ifB_dec (fun h4 => ifB_dec (fun h5 => ret12 (by omega) _ S) fun h5 => ifB_dec (fun h6 => ret12 (by omega) _ S) fun h6 => ifB_not (ifB_dec (fun h7 => ⟨rfl, S, h3, fun _ => by omega, fun h => absurd h4 h⟩) fun h7 => absurd h4 h7)) fun h4 =>
        ifB_not (ifB_dec (fun h7 => absurd h7 h4) fun h7 => ifB_bne (fun h8 => ret12 (by omega) _ S) fun h8 => ⟨rfl, S, h3, fun h => absurd h h4, fun _ => by omega⟩)
  · (repeat (first | ((with_reducible refine ldSlice_id ?_); refine ldSlice_i (S.cell 0 rfl rfl) ?_)))
    try dsimp only [Nv.t]
    refine ifB_bne (fun h3 => ret1 (.inl (by omega)) _ S) (fun h3 => ifB_not (ifB_dec (fun h4 => ⟨rfl, S, ?_⟩) fun h4 => ret1 (.inr h4) _ S))
    rintro (h | h)
    · omega
    · exact h h4

theorem Width14_ok {nv : Nv} (hok : nv.ok) (hr : nv.rows.P h) (hli : nv.inn.l < 2 ^ 62) (hlw : nv.weights.l < 2 ^ 62) (hlb : nv.bias.l < 2 ^ 62) {p : Option Addr} {l c : Nat} {ws : List Int} (hw : Row h p (ints ws)) (hl : ws.length = l) (hl2 : l < 2 ^ 56) :
    callP P n_ref14_Width #[nv.v, .slice p l c] h fun v h' => v = .int .i64 (nv.nd.wid ws) ∧ Fra no h h' := by
  refine call_ref14_Width _ _ _ _ ?_
  unfold ref14_Width
  have S := ((Sep.start h no).read nv.rows hr).read (row p (ints ws)) hw
  refine newI_S (cs := nv.cells) S fun b1 h1 _ S => ?_
  dsimp only [List.nil_append, List.cons_append] at S
  have ek : nv.nd.kind = nv.kind := rfl
  (repeat (first | ((with_reducible refine ldAg_id ?_); refine ldAg_S S 0 rfl rfl ?_)))
  refine (Check14_ok hok (S.r 0 _ rfl) hli hlw hlb (S.row 1 rfl) hl hl2).mono ?_
  rintro _ _ ⟨rfl, F⟩
  refine ⟨_, rfl, ?_⟩
  replace S := S.fra0 F
  refine ifB_bne (fun h3 => ⟨by unfold Nd.wid; rw [if_pos h3], S.fra⟩) (fun h3 => ?_)
  have nc : ¬ nv.nd.chk ws ≠ 0 := fun h => h h3
  have hfit : fitR 1 16 ws := by
    apply Decidable.byContradiction
    intro h
    unfold Nd.chk at h3
    rw [if_pos (.inr h)] at h3
    exact absurd h3 (by decide)
  have hlen1 : 1 ≤ ws.length := by
    apply Decidable.byContradiction
    intro h
    unfold Nd.chk at h3
    split at h3
    · exact absurd h3 (by decide)
    · rw [if_pos (by
        by_cases hm : many nv.nd.kind
        · exact .inr (.inl ⟨hm, by omega⟩)
        · exact .inr (.inr (.inl ⟨hm, by omega⟩)))] at h3
      exact absurd h3 (by decide)
  refine ⟨fun s g => s = ((p, l, c), ⟨b1, 0, none⟩, ()) ∧ Sep h no g [blk b1 nv.cells] [nv.rows, row p (ints ws)] ∧ ¬ wide nv.nd.kind, ?_, ?_⟩
  · rintro s g ⟨rfl, S, n1⟩
    unfold ref14_Width_j5
    dsimp only
    (repeat (first | ((with_reducible refine ldInt_id ?_); refine ldInt_i (S.cell 0 rfl rfl) ?_)))
    try dsimp only [Nv.t]
    refine ifB_beq (fun h4 => ⟨by unfold Nd.wid; rw [if_neg nc, if_neg n1, if_pos (by rw [ek]; exact h4)], S.fra⟩) (fun h4 => ?_)
    have n2 : ¬ nv.nd.kind = 11 := h4
    (repeat (first | ((with_reducible refine ldInt_id ?_); refine ldInt_i (S.cell 0 rfl rfl) ?_)))
    try dsimp only [Nv.t]
    have hx := S.row 1 rfl
    refine ifB_bne (fun h5 => ?_) (fun h5 => ?_)
    · obtain ⟨aa, rfl⟩ := hx.some_of (by rw [ints_length]; omega)
      refine idxI_i rfl (k := 0) rfl (by omega) ?_
      refine ldInt_i (n := ws.getD 0 0) (hx.cell (i := 0) (ints_get (by rw [List.getElem?_eq_getElem (by omega), getD_eq hlen1]))) ⟨?_, S.fra⟩
      have h5' : nv.nd.kind ≠ 8 := h5
      unfold Nd.wid; rw [if_neg nc, if_neg n1, if_neg n2, if_pos h5']
    · refine LoopS_i (fun m s g => ∃ i : Nat, s = ((p, l, c), sumI (ws.take i), (i : Int), ()) ∧ i ≤ l ∧ m = l - i ∧ Sep h no g [blk b1 nv.cells] [nv.rows, row p (ints ws)]) l ⟨0, rfl, by omega, rfl, S⟩ ?_
      rintro m s g ⟨i, rfl, hi', rfl, S⟩
      unfold ref14_Width_l11
      dsimp only
      refine ifB_dec (fun hlt => ?_) (fun hge => ?_)
      · have hix : i < ws.length := by omega
        have hx := S.row 1 rfl
        obtain ⟨aa, rfl⟩ := hx.some_of (by rw [ints_length]; omega)
        refine idxI_i rfl rfl (by omega) ?_
        simp only [Int.toNat_natCast, Nat.mul_one]
        refine ldInt_i (hx.cell (ints_get (List.getElem?_eq_getElem hix))) ?_
        have hsr := sumI_range (fitR_take i hfit)
        rw [List.length_take] at hsr
        have hxi := hfit ws[i] (List.getElem_mem hix)
        rw [wrap64_in (n := sumI (ws.take i) + ws[i]) (by omega), wrap64_in (n := (i : Int) + 1) (by omega), ← sumI_snoc hix]
        exact ⟨l - (i + 1), by omega, i + 1, rfl, by omega, rfl, S⟩
      · rw [List.take_of_length_le (by omega)]
        have h5' : ¬ nv.nd.kind ≠ 8 := fun h => h h5
        exact ⟨by unfold Nd.wid; rw [if_neg nc, if_neg n1, if_neg n2, if_neg h5'], S.fra⟩
  · (repeat (first | ((with_reducible refine ldInt_id ?_); refine ldInt_i (S.cell 0 rfl rfl) ?_)))
    try dsimp only [Nv.t]
    have yes : wide nv.nd.kind → Value.int .i64 nv.width = .int .i64 (nv.nd.wid ws) := fun h => by unfold Nd.wid; rw [if_neg nc, if_pos h]; rfl
    refine ifB_beq (fun h4 => ?_) (fun h4 => ?_)
    · (repeat (first | ((with_reducible refine ldInt_id ?_); refine ldInt_i (S.cell 0 rfl rfl) ?_)))
      exact ⟨yes (.inl h4), S.fra⟩
    · (repeat (first | ((with_reducible refine ldInt_id ?_); refine ldInt_i (S.cell 0 rfl rfl) ?_)))
      try dsimp only [Nv.t]
      refine ifB_beq (fun h5 => ?_) (fun h5 => ?_)
      · (repeat (first | ((with_reducible refine ldInt_id ?_); refine ldInt_i (S.cell 0 rfl rfl) ?_)))
        exact ⟨yes (.inr h5), S.fra⟩
      · exact ⟨rfl, S, by rw [ek]; omega⟩

theorem rate15_ok {nv : Nv} {p : Option Addr} {l c : Nat} {rs : List Int} (hw : Row h p (ints rs)) (hl : rs.length = l) (h1l : 1 ≤ l) (hl2 : l < 2 ^ 56) (hr : 0 ≤ rs.getD 0 0 ∧ rs.getD 0 0 ≤ 2 ^ 30) (hs : four nv.kind → 0 ≤ nv.step ∧ nv.step ≤ 2 ^ 20) :
    callP P n_ref15_rate #[nv.v, .slice p l c] h fun v h' => v = .int .i64 (rateN nv.nd rs) ∧ Fra no h h' := by
  refine call_ref15_rate _ _ _ _ ?_
  unfold ref15_rate
  have S := (Sep.start h no).read (row p (ints rs)) hw
  refine newI_S (cs := nv.cells) S fun b1 h1 _ S => ?_
  dsimp only [List.nil_append, List.cons_append] at S
  have hx := S.row 0 rfl
  obtain ⟨aa, rfl⟩ := hx.some_of (by rw [ints_length]; omega)
  refine idxI_i rfl (k := 0) rfl (by omega) ?_
  refine ldInt_i (n := rs.getD 0 0) (hx.cell (i := 0) (ints_get (by rw [List.getElem?_eq_getElem (by omega), getD_eq (by omega)]))) ?_
  generalize hr0 : rs.getD 0 0 = r at hr ⊢
  have ek : nv.nd.kind = nv.kind := rfl
  refine LoopS_i (fun m s g => ∃ i : Nat, s = ((some aa, l, c), ⟨b1, 0, none⟩, r, (i : Int), ()) ∧ i ≤ l ∧ m = l - i ∧ (∀ x ∈ rs.take i, x = r) ∧ Sep h no g [blk b1 nv.cells] [row (some aa) (ints rs)]) l ⟨0, rfl, by omega, rfl, by simp, S⟩ ?_
  rintro m s g ⟨i, rfl, hi', rfl, hall, S⟩
  unfold ref15_rate_l3
  dsimp only
  refine ifB_dec (fun hlt => ?_) (fun hge => ?_)
  · have hix : i < rs.length := by omega
    have hx := S.row 0 rfl
    refine idxI_i rfl rfl (by omega) ?_
    simp only [Int.toNat_natCast, Nat.mul_one]
    refine ldInt_i (hx.cell (ints_get (List.getElem?_eq_getElem hix))) (ifB_bne (fun h9 => ⟨?_, S.fra⟩) (fun h9 => ?_))
    · unfold rateN; rw [hr0, if_pos (fun h => h9 (h _ (List.getElem_mem hix)))]
    · rw [wrap64_in (n := (i : Int) + 1) (by omega)]
      refine ⟨l - (i + 1), by omega, i + 1, by trivial, by omega, rfl, fun x hx => ?_, S⟩
      rw [List.take_succ_eq_append_getElem hix] at hx
      rcases List.mem_append.1 hx with hx | hx
      · exact hall x hx
      · simp only [List.mem_singleton] at hx; subst hx; exact h9
  · rw [List.take_of_length_le (by omega)] at hall
    have na : ¬ ¬ ∀ x ∈ rs, x = r := fun h => h hall
    (repeat (first | ((with_reducible refine ldInt_id ?_); refine ldInt_i (S.cell 0 rfl rfl) ?_)))
    try dsimp only [Nv.t]
    refine (Windows14_ok nv.kind).mono ?_
    rintro _ _ ⟨rfl, rfl⟩
    refine ⟨_, rfl, ?_⟩
    have e : rateN nv.nd rs = if r = 0 ∧ (wins nv.kind ∨ nv.kind = 5) then -1 else if nv.kind = 5 then 0 else r * stepN nv.kind nv.step := by
      unfold rateN; rw [hr0, if_neg na]; rfl
    rw [e]
    have hst : 0 ≤ stepN nv.kind nv.step ∧ stepN nv.kind nv.step ≤ 2 ^ 20 := by
      unfold stepN; split
      · rename_i h; exact hs h
      · decide
    have hm : 0 ≤ r * stepN nv.kind nv.step ∧ r * stepN nv.kind nv.step ≤ 2 ^ 50 := by
      refine ⟨Int.mul_nonneg hr.1 hst.1, ?_⟩
      have := Int.mul_le_mul hr.2 hst.2 hst.1 (by decide)
      omega
    have tail : ∀ g, Sep h no g [blk b1 nv.cells] [row (some aa) (ints rs)] → ¬ (r = 0 ∧ (wins nv.kind ∨ nv.kind = 5)) → ¬ nv.kind = 5 → ldAg ndSh g ⟨b1, 0, none⟩ fun x17 => callInt P .i64 n_ref14_Step #[agS ndSh x17] g fun n19 h18 => (Value.int .i64 (IntKind.wrap .i64 (r * n19)) = .int .i64 (if r = 0 ∧ (wins nv.kind ∨ nv.kind = 5) then -1 else if nv.kind = 5 then 0 else r * stepN nv.kind nv.step) ∧ Fra no h h18) := by
      intro g S n1 n2
      (repeat (first | ((with_reducible refine ldAg_id ?_); refine ldAg_S S 0 rfl rfl ?_)))
      refine (Step14_ok nv).mono ?_
      rintro _ _ ⟨rfl, F⟩
      refine ⟨_, rfl, ?_⟩
      replace S := S.fra0 F
      dsimp only
      rw [if_neg n1, if_neg n2, wrap64_in (by omega)]
      exact ⟨rfl, S.fra⟩
    refine ifB_beq (fun h3 => ifB_dec (fun h4 => ⟨by rw [if_pos ⟨h3, .inl h4⟩], S.fra⟩) fun h4 => ?_) (fun h3 => ?_)
    · (repeat (first | ((with_reducible refine ldInt_id ?_); refine ldInt_i (S.cell 0 rfl rfl) ?_)))
      try dsimp only [Nv.t]
      refine ifB_beq (fun h5 => ⟨by rw [if_pos ⟨h3, .inr h5⟩], S.fra⟩) (fun h5 => ?_)
      (repeat (first | ((with_reducible refine ldInt_id ?_); refine ldInt_i (S.cell 0 rfl rfl) ?_)))
      try dsimp only [Nv.t]
      refine ifB_beq (fun h5' => absurd h5' h5) (fun _ => ?_)
      have := tail _ S (by omega) h5
      exact this
    · (repeat (first | ((with_reducible refine ldInt_id ?_); refine ldInt_i (S.cell 0 rfl rfl) ?_)))
      try dsimp only [Nv.t]
      refine ifB_beq (fun h5 => ⟨by rw [if_neg (by omega), if_pos h5], S.fra⟩) (fun h5 => ?_)
      have := tail _ S (by omega) h5
      exact this
end

end Go.Proofs.Ytdjofpdmdbcgjad.G
