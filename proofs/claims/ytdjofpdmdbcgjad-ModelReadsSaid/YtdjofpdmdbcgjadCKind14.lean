/- Contracts: the document's kinds of nodes (chapter 14): what is known of one. -/
import Derived.Test.YtdjofpdmdbcgjadCNode
namespace Go.Proofs.Ytdjofpdmdbcgjad.G
open Go Go.Sh
set_option linter.unusedVariables false
set_option linter.unusedSimpArgs false

/-! plain -/
abbrev four (k : Int) : Prop := k = 1 ∨ k = 2 ∨ k = 3 ∨ k = 4
abbrev wins (k : Int) : Prop := four k ∨ k = 12
abbrev wei (k : Int) : Prop := k = 1 ∨ k = 2 ∨ k = 6
abbrev many (k : Int) : Prop := k = 7 ∨ k = 8
abbrev wide (k : Int) : Prop := k = 1 ∨ k = 6
abbrev inR (x lo hi : Int) : Prop := lo ≤ x ∧ x ≤ hi
abbrev scl (k post : Int) : Prop := k = 10 ∨ andI .i64 post 1 = 1
abbrev clm (k post : Int) : Prop := k = 9 ∨ andI .i64 post 2 = 2
def spanN (k size gap : Int) : Int := if k = 12 then size else if four k then (size - 1) * gap + 1 else 1
def Nd.span (n : Nd) : Int := spanN n.kind n.size n.gap
def stepN (k step : Int) : Int := if four k then step else 1
def Nd.else0 (n : Nd) : Prop :=
  (¬ four n.kind → n.step = 0 ∧ n.gap = 0 ∧ n.left = 0 ∧ n.right = 0) ∧ (¬ four n.kind ∧ n.kind ≠ 12 → n.size = 0) ∧ (¬ wide n.kind → n.width = 0) ∧ (¬ wei n.kind → n.weights.length = 0 ∧ n.bias.length = 0) ∧
    (scl n.kind n.post ∨ (n.mult = 0 ∧ n.shift = 0)) ∧ (clm n.kind n.post ∨ (n.low = 0 ∧ n.high = 0))
instance (n : Nd) : Decidable n.else0 := by unfold Nd.else0; infer_instance
def Nd.wcount (n : Nd) (w : Int) : Int := if n.kind = 1 then n.width * n.size * w else if n.kind = 2 then w * n.size else n.width * w
def Nd.sized (n : Nd) (w : Int) : Prop :=
  (wins n.kind → inR n.size 1 8) ∧ (four n.kind → inR n.step 1 4 ∧ inR n.gap 1 4 ∧ (0 ≤ n.left ∧ n.left < n.span) ∧ (0 ≤ n.right ∧ n.right < n.span)) ∧ (wide n.kind → inR n.width 1 16) ∧
    (wei n.kind → (n.weights.length : Int) = n.wcount w ∧ (n.bias.length : Int) = (if n.kind = 2 then w else n.width) ∧ fitR (-128) 127 n.weights ∧ fitR (-16777216) 16777216 n.bias) ∧
    (inR n.mult 0 32767 ∧ inR n.shift 0 30 ∧ inR n.low lo32 hi32 ∧ inR n.high lo32 hi32 ∧ n.low ≤ n.high)
instance (n : Nd) (w : Int) : Decidable (n.sized w) := by unfold Nd.sized; infer_instance
def sumI : List Int → Int
  | [] => 0
  | x :: r => x + sumI r
/-- What is wrong with a node, over inputs of some widths. -/
def Nd.chk (n : Nd) (ws : List Int) : Int :=
  if ws.length ≠ n.inn.length ∨ ¬ fitR 1 16 ws then 1
  else if ¬ inR n.kind 1 12 ∨ (many n.kind ∧ ¬ (2 ≤ ws.length ∧ ws.length ≤ 4)) ∨ (¬ many n.kind ∧ ws.length ≠ 1) ∨ ¬ inR n.post 0 3 ∨ (n.post ≠ 0 ∧ ¬ wei n.kind) ∨ ¬ n.else0 then 12
  else if ¬ n.sized (ws.getD 0 0) then 22
  else if n.kind = 7 ∧ ¬ (∀ x ∈ ws, x = ws.getD 0 0) then 14
  else if n.kind = 8 ∧ sumI ws > 16 then 14 else 0
def Nd.wid (n : Nd) (ws : List Int) : Int :=
  if n.chk ws ≠ 0 then 0 else if wide n.kind then n.width else if n.kind = 11 then 1 else if n.kind ≠ 8 then ws.getD 0 0 else sumI ws

theorem sumI_snoc {xs : List Int} {i : Nat} (hi : i < xs.length) : sumI (xs.take (i + 1)) = sumI (xs.take i) + xs[i] := by
  rw [List.take_succ_eq_append_getElem hi]
  have : ∀ (a : List Int) (x : Int), sumI (a ++ [x]) = sumI a + x := by
    intro a x
    induction a with
    | nil => simp [sumI]
    | cons y r ih => simp only [List.cons_append, sumI, ih]; omega
  exact this _ _
theorem sumI_range : ∀ {xs : List Int}, fitR 1 16 xs → 0 ≤ sumI xs ∧ sumI xs ≤ 16 * xs.length
  | [], _ => by simp [sumI]
  | x :: r, h => by
    rw [fitR_cons] at h
    have := sumI_range h.2
    simp only [sumI, List.length_cons]; omega
theorem fitR_take {lo hi : Int} {xs : List Int} (i : Nat) (h : fitR lo hi xs) : fitR lo hi (xs.take i) := fun x hx => h x (List.mem_of_mem_take hx)

section
variable {h : Heap}

theorem Windows14_ok (k : Int) : callP P n_ref14_Windows #[.int .i64 k] h fun v h' => v = .bool (decide (wins k)) ∧ h' = h := by
  refine call_ref14_Windows _ ?_
  unfold ref14_Windows
  repeat' (first | (first | refine ifB_dec (fun _ => ?_) (fun _ => ?_) | refine ifB_beq (fun _ => ?_) (fun _ => ?_) | refine ifB_bne (fun _ => ?_) (fun _ => ?_) | refine ifB_not ?_) | refine And.intro ?_ rfl)
  all_goals first
    | (congr 1; symm; rw [decide_eq_true_iff]; omega)
    | (congr 1; rw [Bool.eq_iff_iff, decide_eq_true_iff, beq_iff_eq]; omega)
theorem four14_ok (k : Int) : callP P n_ref14_four #[.int .i64 k] h fun v h' => v = .bool (decide (four k)) ∧ h' = h := by
  refine call_ref14_four _ ?_
  unfold ref14_four
  repeat' (first | (first | refine ifB_dec (fun _ => ?_) (fun _ => ?_) | refine ifB_beq (fun _ => ?_) (fun _ => ?_) | refine ifB_bne (fun _ => ?_) (fun _ => ?_) | refine ifB_not ?_) | refine And.intro ?_ rfl)
  all_goals first
    | (congr 1; symm; rw [decide_eq_true_iff]; omega)
    | (congr 1; rw [Bool.eq_iff_iff, decide_eq_true_iff, beq_iff_eq]; omega)
theorem weighs14_ok (k : Int) : callP P n_ref14_weighs #[.int .i64 k] h fun v h' => v = .bool (decide (wei k)) ∧ h' = h := by
  refine call_ref14_weighs _ ?_
  unfold ref14_weighs
  repeat' (first | (first | refine ifB_dec (fun _ => ?_) (fun _ => ?_) | refine ifB_beq (fun _ => ?_) (fun _ => ?_) | refine ifB_bne (fun _ => ?_) (fun _ => ?_) | refine ifB_not ?_) | refine And.intro ?_ rfl)
  all_goals first
    | (congr 1; symm; rw [decide_eq_true_iff]; omega)
    | (congr 1; rw [Bool.eq_iff_iff, decide_eq_true_iff, beq_iff_eq]; omega)
theorem Many14_ok (k : Int) : callP P n_ref14_Many #[.int .i64 k] h fun v h' => v = .bool (decide (many k)) ∧ h' = h := by
  refine call_ref14_Many _ ?_
  unfold ref14_Many
  repeat' (first | (first | refine ifB_dec (fun _ => ?_) (fun _ => ?_) | refine ifB_beq (fun _ => ?_) (fun _ => ?_) | refine ifB_bne (fun _ => ?_) (fun _ => ?_) | refine ifB_not ?_) | refine And.intro ?_ rfl)
  all_goals first
    | (congr 1; symm; rw [decide_eq_true_iff]; omega)
    | (congr 1; rw [Bool.eq_iff_iff, decide_eq_true_iff, beq_iff_eq]; omega)
theorem in14_ok (x lo hi : Int) : callP P n_ref14_in #[.int .i64 x, .int .i64 lo, .int .i64 hi] h fun v h' => v = .bool (decide (inR x lo hi)) ∧ h' = h := by
  refine call_ref14_in _ _ _ ?_
  unfold ref14_in
  refine ifB_dec (fun h1 => ⟨?_, rfl⟩) (fun h1 => ⟨?_, rfl⟩)
  · congr 1; rw [decide_eq_decide]; omega
  · rw [decide_eq_false (by omega)]
theorem all14_ok {p : Option Addr} {l c : Nat} {xs : List Int} (hx : Row h p (ints xs)) (hl : xs.length = l) (hl2 : l < 2 ^ 62) (lo hi : Int) :
    callP P n_ref14_all #[.slice p l c, .int .i64 lo, .int .i64 hi] h fun v h' => v = .bool (decide (fitR lo hi xs)) ∧ h' = h := by
  refine call_ref14_all _ _ _ _ _ ?_
  unfold ref14_all
  refine LoopS_i (fun m s g => g = h ∧ ∃ i : Nat, s = ((p, l, c), lo, hi, (i : Int), ()) ∧ i ≤ l ∧ m = l - i ∧ fitR lo hi (xs.take i)) l ⟨rfl, 0, rfl, by omega, rfl, by rw [List.take_zero]; exact fitR_nil _ _⟩ ?_
  rintro m s g ⟨rfl, i, rfl, hi', rfl, hf⟩
  unfold ref14_all_l2
  dsimp only
  refine ifB_dec (fun hlt => ?_) (fun hge => ?_)
  · have hix : i < xs.length := by omega
    obtain ⟨aa, rfl⟩ := hx.some_of (by rw [ints_length]; omega)
    have hc := hx.cell (ints_get (List.getElem?_eq_getElem hix))
    have bad : ¬ (lo ≤ xs[i] ∧ xs[i] ≤ hi) → Value.bool false = .bool (decide (fitR lo hi xs)) ∧ g = g := fun hn => ⟨by rw [decide_eq_false (fun h => hn (h _ (List.getElem_mem hix)))], rfl⟩
    refine idxI_i rfl rfl (by omega) ?_
    simp only [Int.toNat_natCast, Nat.mul_one]
    refine ldInt_i hc (ifB_dec (fun h1 => ⟨(bad (by omega)).1, by trivial⟩) fun h1 => idxI_i rfl rfl (by omega) ?_)
    refine ldInt_i hc (ifB_dec (fun h2 => ⟨(bad (by omega)).1, by trivial⟩) fun h2 => ?_)
    rw [wrap64_in (by omega)]
    exact ⟨l - (i + 1), by omega, by trivial, i + 1, rfl, by omega, rfl, (fitR_take_succ hix).2 ⟨hf, by omega, by omega⟩⟩
  · rw [List.take_of_length_le (by omega)] at hf
    exact ⟨by rw [decide_eq_true hf], by trivial⟩

theorem Span14_ok (nv : Nv) (hs : -2 ^ 20 ≤ nv.size ∧ nv.size ≤ 2 ^ 20) (hg : -2 ^ 20 ≤ nv.gap ∧ nv.gap ≤ 2 ^ 20) : callP P n_ref14_Span #[nv.v] h fun v h' => v = .int .i64 nv.nd.span ∧ Fra no h h' := by
  refine call_ref14_Span _ ?_
  unfold ref14_Span
  have S := Sep.start h no
  refine newI_S (cs := nv.cells) S fun b1 h1 _ S => ?_
  (repeat (first | ((with_reducible refine ldInt_id ?_); refine ldInt_i (S.cell 0 rfl rfl) ?_)))
  dsimp only [Nv.t]
  have e : nv.nd.span = if nv.kind = 12 then nv.size else if four nv.kind then (nv.size - 1) * nv.gap + 1 else 1 := rfl
  rw [e]
  refine ifB_beq (fun h1 => ?_) (fun h1 => ?_)
  · (repeat (first | ((with_reducible refine ldInt_id ?_); refine ldInt_i (S.cell 0 rfl rfl) ?_)))
    rw [if_pos h1]; exact ⟨rfl, S.fra⟩
  · (repeat (first | ((with_reducible refine ldInt_id ?_); refine ldInt_i (S.cell 0 rfl rfl) ?_)))
    dsimp only [Nv.t]
    refine (Windows14_ok nv.kind).mono ?_
    rintro _ _ ⟨rfl, rfl⟩
    refine ⟨_, rfl, ?_⟩
    rw [if_neg h1]
    refine ifB_not (ifB_dec (fun h2 => ?_) (fun h2 => ?_))
    · (repeat (first | ((with_reducible refine ldInt_id ?_); refine ldInt_i (S.cell 0 rfl rfl) ?_)))
      dsimp only [Nv.t]
      rw [if_pos (by omega)]
      have h3 : -2 ^ 42 ≤ (nv.size - 1) * nv.gap ∧ (nv.size - 1) * nv.gap ≤ 2 ^ 42 := by
        have a1 : (nv.size - 1).natAbs ≤ 2 ^ 21 := by omega
        have a2 : nv.gap.natAbs ≤ 2 ^ 20 := by omega
        have a3 : ((nv.size - 1) * nv.gap).natAbs ≤ 2 ^ 21 * 2 ^ 20 := by rw [Int.natAbs_mul]; exact Nat.mul_le_mul a1 a2
        omega
      rw [wrap64_in (n := nv.size - 1) (by omega), wrap64_in (n := (nv.size - 1) * nv.gap) (by omega), wrap64_in (by omega)]
      exact ⟨rfl, S.fra⟩
    · rw [if_neg (by omega)]; exact ⟨rfl, S.fra⟩
theorem Step14_ok (nv : Nv) : callP P n_ref14_Step #[nv.v] h fun v h' => v = .int .i64 (stepN nv.kind nv.step) ∧ Fra no h h' := by
  refine call_ref14_Step _ ?_
  unfold ref14_Step
  have S := Sep.start h no
  refine newI_S (cs := nv.cells) S fun b1 h1 _ S => ?_
  (repeat (first | ((with_reducible refine ldInt_id ?_); refine ldInt_i (S.cell 0 rfl rfl) ?_)))
  dsimp only [Nv.t]
  refine (four14_ok nv.kind).mono ?_
  rintro _ _ ⟨rfl, rfl⟩
  refine ⟨_, rfl, ?_⟩
  unfold stepN
  refine ifB_dec (fun h2 => ?_) (fun h2 => ?_)
  · (repeat (first | ((with_reducible refine ldInt_id ?_); refine ldInt_i (S.cell 0 rfl rfl) ?_)))
    rw [if_pos h2]; exact ⟨rfl, S.fra⟩
  · rw [if_neg h2]; exact ⟨rfl, S.fra⟩
theorem bd_mul {a b : Int} {x y : Nat} (ha : 0 ≤ a ∧ a ≤ x) (hb : 0 ≤ b ∧ b ≤ y) : 0 ≤ a * b ∧ a * b ≤ ((x * y : Nat) : Int) := by
  refine ⟨Int.mul_nonneg ha.1 hb.1, ?_⟩
  have := Int.mul_le_mul ha.2 hb.2 hb.1 (by omega)
  simpa using this
theorem weights14_ok (nv : Nv) {w : Int} (hw : 0 ≤ w ∧ w ≤ 16) (hwd : nv.kind ≠ 2 → 0 ≤ nv.width ∧ nv.width ≤ 16) (hsz : nv.kind = 1 ∨ nv.kind = 2 → 0 ≤ nv.size ∧ nv.size ≤ 8) : callP P n_ref14_weights #[nv.v, .int .i64 w] h fun v h' => v = .int .i64 (nv.nd.wcount w) ∧ Fra no h h' := by
  refine call_ref14_weights _ _ ?_
  unfold ref14_weights
  have S := Sep.start h no
  refine newI_S (cs := nv.cells) S fun b1 h1 _ S => ?_
  (repeat (first | ((with_reducible refine ldInt_id ?_); refine ldInt_i (S.cell 0 rfl rfl) ?_)))
  dsimp only [Nv.t]
  have e : nv.nd.wcount w = if nv.kind = 1 then nv.width * nv.size * w else if nv.kind = 2 then w * nv.size else nv.width * w := rfl
  rw [e]
  refine ifB_beq (fun k1 => ?_) (fun k1 => ?_)
  · (repeat (first | ((with_reducible refine ldInt_id ?_); refine ldInt_i (S.cell 0 rfl rfl) ?_)))
    dsimp only [Nv.t]
    have b1 := bd_mul (x := 16) (y := 8) (hwd (by omega)) (hsz (.inl k1))
    have b2 := bd_mul (x := 128) (y := 16) (a := nv.width * nv.size) (by omega) hw
    rw [wrap64_in (n := nv.width * nv.size) (by omega), wrap64_in (by omega), if_pos k1]
    exact ⟨rfl, S.fra⟩
  · (repeat (first | ((with_reducible refine ldInt_id ?_); refine ldInt_i (S.cell 0 rfl rfl) ?_)))
    dsimp only [Nv.t]
    rw [if_neg k1]
    refine ifB_beq (fun k2 => ?_) (fun k2 => ?_)
    · (repeat (first | ((with_reducible refine ldInt_id ?_); refine ldInt_i (S.cell 0 rfl rfl) ?_)))
      dsimp only [Nv.t]
      have b1 := bd_mul (x := 16) (y := 8) hw (hsz (.inr k2))
      rw [wrap64_in (by omega), if_pos k2]
      exact ⟨rfl, S.fra⟩
    · (repeat (first | ((with_reducible refine ldInt_id ?_); refine ldInt_i (S.cell 0 rfl rfl) ?_)))
      dsimp only [Nv.t]
      have b1 := bd_mul (x := 16) (y := 16) (hwd k2) hw
      rw [wrap64_in (by omega), if_neg k2]
      exact ⟨rfl, S.fra⟩

end

end Go.Proofs.Ytdjofpdmdbcgjad.G
