/- Contracts: the program's Check and Width of nodes (kind). -/
import Derived.Test.YtbgplllcjhgdhaaDoorCKindP2
namespace Go.Proofs.YtbgplllcjhgdhaaDoor.G
open Go Go.Sh
set_option linter.unusedVariables false
set_option linter.unusedSimpArgs false

section
variable {h : Heap}

theorem Check_ok {nv : Nv} (hok : nv.ok) (hr : nv.rows.P h) (hli : nv.inn.l < 2 ^ 62) (hlw : nv.weights.l < 2 ^ 62) (hlb : nv.bias.l < 2 ^ 62) (hT : KT h) {p : Option Addr} {l c : Nat} {ws : List Int} (hw : Row h p (ints ws)) (hl : ws.length = l) (hl2 : l < 2 ^ 56) :
    callP P n_kind_Check #[nv.v, .slice p l c] h fun v h' => v = .int .i64 (nv.nd.chk ws) ∧ Fra no h h' := by
  refine call_kind_Check _ _ _ _ ?_
  unfold kind_Check
  have li := hok.1.1
  have eli : nv.nd.inn.length = nv.inn.l := li
  have ek : nv.nd.kind = nv.kind := rfl
  have ep : nv.nd.post = nv.post := rfl
  have S := (((Sep.start h no).read (blk 0 (ints kindTab)) hT).read nv.rows hr).read (row p (ints ws)) hw
  refine newI_S (cs := nv.cells) S fun b1 h1 _ S => ?_
  dsimp only [List.nil_append, List.cons_append] at S
  have ret1 : (ws.length ≠ nv.nd.inn.length ∨ ¬ fitR 1 16 ws) → ∀ g, Sep h no g [blk b1 nv.cells] [blk 0 (ints kindTab), nv.rows, row p (ints ws)] → Value.int .i64 1 = .int .i64 (nv.nd.chk ws) ∧ Fra no h g := fun hn g S => ⟨by unfold Nd.chk; rw [if_pos hn], S.fra⟩
  refine ⟨fun s g => s = ((p, l, c), ⟨b1, 0, none⟩, ()) ∧ Sep h no g [blk b1 nv.cells] [blk 0 (ints kindTab), nv.rows, row p (ints ws)] ∧ ¬ (ws.length ≠ nv.nd.inn.length ∨ ¬ fitR 1 16 ws) ∧
    ¬ (¬ inR nv.nd.kind 1 12 ∨ (many nv.nd.kind ∧ ¬ (2 ≤ ws.length ∧ ws.length ≤ 4)) ∨ (¬ many nv.nd.kind ∧ ws.length ≠ 1) ∨ ¬ inR nv.nd.post 0 3 ∨ (nv.nd.post ≠ 0 ∧ ¬ wei nv.nd.kind) ∨ ¬ nv.nd.else0) ∧ ¬ ¬ nv.nd.sized (ws.getD 0 0) ∧ 1 ≤ ws.length, ?_, ?_⟩
  · rintro s g ⟨rfl, S, n1, nk12, nk22, hl1⟩
    unfold kind_Check_j9
    dsimp only
    have hfit : fitR 1 16 ws := by
      apply Decidable.byContradiction
      intro h; exact n1 (.inr h)
    obtain ⟨aa, rfl⟩ := (S.row 2 rfl).some_of (by rw [ints_length]; omega)
    have e0 : ws.getD 0 0 = ws[0] := getD_eq hl1
    refine LoopS_i (fun m s g => ∃ i : Nat, s = ((some aa, l, c), ⟨b1, 0, none⟩, sumI (ws.take i), (some aa, l, c), (l : Int), (i : Int), ()) ∧ i ≤ l ∧ m = l - i ∧ (nv.kind = 7 → ∀ x ∈ ws.take i, x = ws.getD 0 0) ∧ Sep h no g [blk b1 nv.cells] [blk 0 (ints kindTab), nv.rows, row (some aa) (ints ws)]) l ⟨0, rfl, by omega, rfl, by simp, S⟩ ?_
    rintro m s g ⟨i, rfl, hi', rfl, h7, S⟩
    unfold kind_Check_l11
    dsimp only
    refine ifB_dec (fun hlt => ?_) (fun hge => ?_)
    · have hix : i < ws.length := by omega
      have hc := (S.row 2 rfl).cell (ints_get (List.getElem?_eq_getElem hix))
      have hc0 : cellH g (Addr.add aa 0) = some (.int .i64 (ws.getD 0 0)) := (S.row 2 rfl).cell (i := 0) (ints_get (by rw [List.getElem?_eq_getElem (by omega), e0]))
      refine idxI_i rfl rfl (by omega) ?_
      simp only [Int.toNat_natCast, Nat.mul_one]
      refine ldInt_i hc (ldInt_i (n := nv.kind) (S.cell 0 rfl rfl) ?_)
      have hsr := sumI_range (fitR_take i hfit)
      rw [List.length_take] at hsr
      have hxi := hfit ws[i] (List.getElem_mem hix)
      rw [wrap64_in (n := sumI (ws.take i) + ws[i]) (by omega), wrap64_in (n := (i : Int) + 1) (by omega), ← sumI_snoc hix]
      refine ifB_beq (fun h8 => ?_) (fun h8 => ?_)
      · refine idxI_i rfl (k := 0) rfl (by omega) ?_
        refine ldInt_i hc0 (ifB_bne (fun h9 => ⟨?_, S.fra⟩) (fun h9 => ?_))
        · have h77 : nv.nd.kind = 7 ∧ ¬ ∀ x ∈ ws, x = ws.getD 0 0 := ⟨h8, fun h => h9 (h _ (List.getElem_mem hix))⟩
          unfold Nd.chk; rw [if_neg n1, if_neg nk12, if_neg nk22, if_pos h77]
        · refine ⟨l - (i + 1), by omega, i + 1, by trivial, by omega, rfl, fun _ x hx => ?_, S⟩
          rw [List.take_succ_eq_append_getElem hix] at hx
          rcases List.mem_append.1 hx with hx | hx
          · exact h7 h8 x hx
          · simp only [List.mem_singleton] at hx; subst hx; exact h9
      · exact ⟨l - (i + 1), by omega, i + 1, rfl, by omega, rfl, fun h => absurd h h8, S⟩
    · rw [List.take_of_length_le (by omega)] at h7 ⊢
      have n14 : ¬ (nv.nd.kind = 7 ∧ ¬ ∀ x ∈ ws, x = ws.getD 0 0) := fun h => h.2 (h7 h.1)
      refine ldInt_i (n := nv.kind) (S.cell 0 rfl rfl) ?_
      refine ifB_beq (fun h8 => ifB_dec (fun h9 => ⟨?_, S.fra⟩) (fun h9 => ⟨?_, S.fra⟩)) (fun h8 => ⟨?_, S.fra⟩)
      · have h88 : nv.nd.kind = 8 ∧ sumI ws > 16 := ⟨h8, h9⟩
        unfold Nd.chk; rw [if_neg n1, if_neg nk12, if_neg nk22, if_neg n14, if_pos h88]
      · have h88 : ¬ (nv.nd.kind = 8 ∧ sumI ws > 16) := fun h => h9 h.2
        unfold Nd.chk; rw [if_neg n1, if_neg nk12, if_neg nk22, if_neg n14, if_neg h88]
      · have h88 : ¬ (nv.nd.kind = 8 ∧ sumI ws > 16) := fun h => h8 h.1
        unfold Nd.chk; rw [if_neg n1, if_neg nk12, if_neg nk22, if_neg n14, if_neg h88]
  · refine ldSlice_i (p := nv.inn.p) (l := nv.inn.l) (c := nv.inn.c) (S.cell 0 rfl rfl) (ifB_bne (fun h3 => ret1 (.inl (by omega)) _ S) fun h3 => ?_)
    refine (every_ok (S.row 2 rfl) hl (by omega) 1 16).mono ?_
    rintro _ _ ⟨rfl, rfl⟩
    refine ⟨_, rfl, ?_⟩
    refine ifB_not (ifB_dec (fun h4 => ?_) (fun h4 => ret1 (.inr h4) _ S))
    have n1 : ¬ (ws.length ≠ nv.nd.inn.length ∨ ¬ fitR 1 16 ws) := by
      rintro (h | h)
      · omega
      · exact h h4
    have ret12 : (¬ inR nv.kind 1 12 ∨ (many nv.kind ∧ ¬ (2 ≤ ws.length ∧ ws.length ≤ 4)) ∨ (¬ many nv.kind ∧ ws.length ≠ 1) ∨ ¬ inR nv.post 0 3 ∨ (nv.post ≠ 0 ∧ ¬ wei nv.kind) ∨ ¬ nv.nd.else0) → ∀ g, Sep h no g [blk b1 nv.cells] [blk 0 (ints kindTab), nv.rows, row p (ints ws)] → Value.int .i64 12 = .int .i64 (nv.nd.chk ws) ∧ Fra no h g :=
      fun hn g S => ⟨by rw [← ek, ← ep] at hn; unfold Nd.chk; rw [if_neg n1, if_pos hn], S.fra⟩
    refine ldInt_i (n := nv.kind) (S.cell 0 rfl rfl) ?_
    refine (in_ok nv.kind 1 12).mono ?_
    rintro _ _ ⟨rfl, rfl⟩
    refine ⟨_, rfl, ?_⟩
    refine ifB_not (ifB_dec (fun k1 => ?_) (fun k1 => ret12 (.inl k1) _ S))
    refine ldInt_i (n := nv.post) (S.cell 0 rfl rfl) ?_
    refine (in_ok nv.post 0 3).mono ?_
    rintro _ _ ⟨rfl, rfl⟩
    refine ⟨_, rfl, ?_⟩
    refine ifB_not (ifB_dec (fun k4 => ?_) (fun k4 => ret12 (.inr (.inr (.inr (.inl k4)))) _ S))
    refine ldInt_i (n := nv.post) (S.cell 0 rfl rfl) ?_
    refine ifB_bne (fun p0 => ?ka) (fun p0 => ?kb)
    case' ka =>
      refine ldAg_S S 0 rfl (x := nv.t) rfl ?_
      refine (has_ok nv 4 (S.r 0 _ rfl)).mono ?_
      rintro _ _ ⟨rfl, F⟩
      refine ⟨_, rfl, ?_⟩
      replace S := S.fra0 F
      refine ifB_not (ifB_dec (fun w1 => ?_) (fun w1 => ret12 (.inr (.inr (.inr (.inr (.inl ⟨p0, fun w => w1 (has4.2 w)⟩))))) _ S))
      have k5 : nv.post ≠ 0 → wei nv.kind := fun _ => has4.1 w1
      clear p0 w1
    case' kb =>
      have k5 : nv.post ≠ 0 → wei nv.kind := fun n => absurd p0 n
      clear p0
    all_goals
      refine ldAg_S S 0 rfl (x := nv.t) rfl ?_
      refine (has_ok nv 8 (S.r 0 _ rfl)).mono ?_
      rintro _ _ ⟨rfl, F⟩
      refine ⟨_, rfl, ?_⟩
      replace S := S.fra0 F
      refine ifB_dec (fun m1 => ?_) (fun m1 => ?_)
      rotate_left
      refine ldAg_S S 0 rfl (x := nv.t) rfl ?_
      refine (has_ok nv 8 (S.r 0 _ rfl)).mono ?_
      rintro _ _ ⟨rfl, F⟩
      refine ⟨_, rfl, ?_⟩
      replace S := S.fra0 F
      refine ifB_not (ifB_dec (fun m2 => absurd m2 m1) (fun m2 => ?_))
      refine ifB_bne (fun l1 => ret12 (.inr (.inr (.inl ⟨fun m => m1 (has8.2 m), by omega⟩))) _ S) (fun l1 => ?_)
      have k2 : many nv.kind → 2 ≤ ws.length ∧ ws.length ≤ 4 := fun m => absurd (has8.2 m) m1
      have k3 : ¬ many nv.kind → ws.length = 1 := fun _ => by omega
      clear m2 m1 l1
      rotate_left
      refine (in_ok (l : Int) 2 4).mono ?_
      rintro _ _ ⟨rfl, rfl⟩
      refine ⟨_, rfl, ?_⟩
      refine ifB_not (ifB_dec (fun l1 => ?_) (fun l1 => ret12 (.inr (.inl ⟨has8.1 m1, by omega⟩)) _ S))
      refine ldAg_S S 0 rfl (x := nv.t) rfl ?_
      refine (has_ok nv 8 (S.r 0 _ rfl)).mono ?_
      rintro _ _ ⟨rfl, F⟩
      refine ⟨_, rfl, ?_⟩
      replace S := S.fra0 F
      refine ifB_not (ifB_dec (fun m2 => ?_) (fun m2 => absurd m1 m2))
      have k2 : many nv.kind → 2 ≤ ws.length ∧ ws.length ≤ 4 := fun m => by omega
      have k3 : ¬ many nv.kind → ws.length = 1 := fun n => absurd (has8.1 m1) n
      clear m2 m1 l1
    all_goals
      refine ldAg_S S 0 rfl (x := nv.t) rfl ?_
      refine (bare_ok hok (S.r 0 _ rfl) k1).mono ?_
      rintro _ _ ⟨rfl, F⟩
      refine ⟨_, rfl, ?_⟩
      replace S := S.fra0 F
      refine ifB_not (ifB_dec (fun k6 => ?_) (fun k6 => ret12 (.inr (.inr (.inr (.inr (.inr k6))))) _ S))
      have hl1 : 1 ≤ ws.length := by
        by_cases m : many nv.kind
        · have := k2 m; omega
        · have := k3 m; omega
      have nk12 : ¬ (¬ inR nv.nd.kind 1 12 ∨ (many nv.nd.kind ∧ ¬ (2 ≤ ws.length ∧ ws.length ≤ 4)) ∨ (¬ many nv.nd.kind ∧ ws.length ≠ 1) ∨ ¬ inR nv.nd.post 0 3 ∨ (nv.nd.post ≠ 0 ∧ ¬ wei nv.nd.kind) ∨ ¬ nv.nd.else0) := by
        rw [ek, ep]
        rintro (h | h | h | h | h | h)
        · exact h k1
        · exact h.2 (k2 h.1)
        · exact h.2 (k3 h.1)
        · exact h k4
        · exact h.2 (k5 h.1)
        · exact h k6
      have hx := S.row 2 rfl
      obtain ⟨aa, eaa⟩ := hx.some_of (by rw [ints_length]; omega)
      rw [eaa] at hx
      refine idxI_i eaa (k := 0) rfl (by omega) (ldAg_S S 0 rfl (x := nv.t) rfl ?_)
      have e0 : ws.getD 0 0 = ws[0] := getD_eq hl1
      refine ldInt_i (n := ws.getD 0 0) (hx.cell (i := 0) (ints_get (by rw [List.getElem?_eq_getElem (by omega), e0]))) ?_
      have hw0 := h4 ws[0] (List.getElem_mem _)
      rw [← e0] at hw0
      refine (fits_ok hok (S.r 1 _ rfl) hlw hlb (S.r 0 _ rfl) hw0).mono ?_
      rintro _ _ ⟨rfl, F⟩
      refine ⟨_, rfl, ?_⟩
      replace S := S.fra0 F
      exact ifB_not (ifB_dec (fun k7 => ⟨rfl, S, n1, nk12, fun h => h k7, hl1⟩) (fun k7 => ⟨by unfold Nd.chk; rw [if_neg n1, if_neg nk12, if_pos k7], S.fra⟩))

/-- What is right with a node. -/
theorem chk_ok {n : Nd} {ws : List Int} (h : n.chk ws = 0) : fitR 1 16 ws ∧ 1 ≤ ws.length ∧ ws.length = n.inn.length ∧ inR n.kind 1 12 ∧ inR n.post 0 3 ∧ (many n.kind → 2 ≤ ws.length ∧ ws.length ≤ 4) ∧ (¬ many n.kind → ws.length = 1) ∧ (n.post ≠ 0 → wei n.kind) ∧ n.else0 ∧ n.sized (ws.getD 0 0) ∧ (n.kind = 7 → ∀ x ∈ ws, x = ws.getD 0 0) ∧ (n.kind = 8 → sumI ws ≤ 16) := by
  unfold Nd.chk at h
  split at h
  · cases h
  rename_i h1
  split at h
  · cases h
  rename_i h2
  split at h
  · cases h
  rename_i h3
  split at h
  · cases h
  rename_i h4
  split at h
  · cases h
  rename_i h5
  have a1 : fitR 1 16 ws := Decidable.byContradiction fun h => h1 (.inr h)
  have a2 : ws.length = n.inn.length := Decidable.byContradiction fun h => h1 (.inl h)
  have a3 : inR n.kind 1 12 := Decidable.byContradiction fun h => h2 (.inl h)
  have a4 : inR n.post 0 3 := Decidable.byContradiction fun h => h2 (.inr (.inr (.inr (.inl h))))
  have a5 : many n.kind → 2 ≤ ws.length ∧ ws.length ≤ 4 := fun m => Decidable.byContradiction fun h => h2 (.inr (.inl ⟨m, h⟩))
  have a6 : ¬ many n.kind → ws.length = 1 := fun m => Decidable.byContradiction fun h => h2 (.inr (.inr (.inl ⟨m, h⟩)))
  refine ⟨a1, ?_, a2, a3, a4, a5, a6, fun p => Decidable.byContradiction fun h => h2 (.inr (.inr (.inr (.inr (.inl ⟨p, h⟩))))), Decidable.byContradiction fun h => h2 (.inr (.inr (.inr (.inr (.inr h))))), Decidable.byContradiction h3,
    fun k => Decidable.byContradiction fun h => h4 ⟨k, h⟩, fun k => by omega⟩
  by_cases m : many n.kind
  · have := a5 m; omega
  · have := a6 m; omega

theorem Width_ok {nv : Nv} (hok : nv.ok) (hr : nv.rows.P h) (hli : nv.inn.l < 2 ^ 62) (hlw : nv.weights.l < 2 ^ 62) (hlb : nv.bias.l < 2 ^ 62) (hT : KT h) {p : Option Addr} {l c : Nat} {ws : List Int} (hw : Row h p (ints ws)) (hl : ws.length = l) (hl2 : l < 2 ^ 56) :
    callP P n_kind_Width #[nv.v, .slice p l c] h fun v h' => v = .int .i64 (nv.nd.wid ws) ∧ Fra no h h' := by
  refine call_kind_Width _ _ _ _ ?_
  unfold kind_Width
  have S := (((Sep.start h no).read (blk 0 (ints kindTab)) hT).read nv.rows hr).read (row p (ints ws)) hw
  refine newI_S (cs := nv.cells) S fun b1 h1 _ S => ?_
  dsimp only [List.nil_append, List.cons_append] at S
  have ek : nv.nd.kind = nv.kind := rfl
  refine ldAg_S S 0 rfl (x := nv.t) rfl ?_
  refine (Check_ok hok (S.r 1 _ rfl) hli hlw hlb (S.r 0 _ rfl) (S.row 2 rfl) hl hl2).mono ?_
  rintro _ _ ⟨rfl, F⟩
  refine ⟨_, rfl, ?_⟩
  replace S := S.fra0 F
  refine ifB_bne (fun h3 => ⟨by unfold Nd.wid; rw [if_pos h3], S.fra⟩) (fun h3 => ?_)
  have nc : ¬ nv.nd.chk ws ≠ 0 := fun h => h h3
  obtain ⟨hfit, hlen1, _⟩ := chk_ok h3
  refine ldAg_S S 0 rfl (x := nv.t) rfl ?_
  refine (has_ok nv 2 (S.r 0 _ rfl)).mono ?_
  rintro _ _ ⟨rfl, F⟩
  refine ⟨_, rfl, ?_⟩
  replace S := S.fra0 F
  refine ifB_dec (fun h2 => ldInt_i (n := nv.width) (S.cell 0 rfl rfl) ⟨by unfold Nd.wid; rw [if_neg nc, if_pos (by rw [ek]; exact has2.1 h2)]; rfl, S.fra⟩) (fun h2 => ?_)
  have n1 : ¬ wide nv.nd.kind := fun h => h2 (has2.2 h)
  refine ldInt_i (n := nv.kind) (S.cell 0 rfl rfl) (ifB_beq (fun h4 => ⟨by unfold Nd.wid; rw [if_neg nc, if_neg n1, if_pos (by rw [ek]; exact h4)], S.fra⟩) (fun h4 => ?_))
  have n2 : ¬ nv.nd.kind = 11 := h4
  have hx := S.row 2 rfl
  refine ldInt_i (n := nv.kind) (S.cell 0 rfl rfl) (ifB_beq (fun h5 => ?_) (fun h5 => ?_))
  · refine LoopS_i (fun m s g => ∃ i : Nat, s = (sumI (ws.take i), (p, l, c), (l : Int), (i : Int), ()) ∧ i ≤ l ∧ m = l - i ∧ Sep h no g [blk b1 nv.cells] [blk 0 (ints kindTab), nv.rows, row p (ints ws)]) l ⟨0, rfl, by omega, rfl, S⟩ ?_
    rintro m s g ⟨i, rfl, hi', rfl, S⟩
    unfold kind_Width_l10
    dsimp only
    refine ifB_dec (fun hlt => ?_) (fun hge => ?_)
    · have hix : i < ws.length := by omega
      have hx := S.row 2 rfl
      obtain ⟨aa, rfl⟩ := hx.some_of (by rw [ints_length]; omega)
      refine idxI_i rfl rfl (by omega) ?_
      simp only [Int.toNat_natCast, Nat.mul_one]
      refine ldInt_i (hx.cell (ints_get (List.getElem?_eq_getElem hix))) ?_
      have hsr := sumI_range (fitR_take i hfit)
      rw [List.length_take] at hsr
      have hxi := hfit ws[i] (List.getElem_mem hix)
      rw [wrap64_in (n := sumI (ws.take i) + ws[i]) (by omega), wrap64_in (n := (i : Int) + 1) (by omega), ← sumI_snoc hix]
      exact ⟨l - (i + 1), by omega, i + 1, rfl, by omega, rfl, S⟩
    · rw [List.take_of_length_le (by omega)]
      have h5' : ¬ nv.nd.kind ≠ 8 := fun h => h h5
      exact ⟨by unfold Nd.wid; rw [if_neg nc, if_neg n1, if_neg n2, if_neg h5'], S.fra⟩
  · obtain ⟨aa, rfl⟩ := hx.some_of (by rw [ints_length]; omega)
    refine idxI_i rfl (k := 0) rfl (by omega) ?_
    refine ldInt_i (n := ws.getD 0 0) (hx.cell (i := 0) (ints_get (by rw [List.getElem?_eq_getElem (by omega), getD_eq hlen1]))) ⟨?_, S.fra⟩
    have h5' : nv.nd.kind ≠ 8 := h5
    unfold Nd.wid; rw [if_neg nc, if_neg n1, if_neg n2, if_pos h5']
end

end Go.Proofs.YtbgplllcjhgdhaaDoor.G
