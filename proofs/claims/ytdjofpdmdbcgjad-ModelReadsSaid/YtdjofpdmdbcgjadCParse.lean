/- The plain law of the model's bytes: what is written is read, what is read is written. -/
import Derived.Test.YtdjofpdmdbcgjadCSameG
namespace Go.Proofs.Ytdjofpdmdbcgjad.G
open Go Go.Sh
set_option linter.unusedVariables false
set_option linter.unusedSimpArgs false

theorem low_num : ∀ bs : List UInt8, low (num bs) bs.length = bs
  | [] => rfl
  | b :: r => by
    have ih := low_num r
    have hb := b.toNat_lt
    have e1 : (num (b :: r)) / 256 = num r := by simp only [num]; omega
    have e2 : lowByte (num (b :: r)) = b := by
      unfold lowByte
      have : num (b :: r) % 256 = b.toNat := by simp only [num]; omega
      rw [this, Int.toNat_natCast, UInt8.ofNat_toNat]
    show lowByte (num (b :: r)) :: low (num (b :: r) / 256) r.length = b :: r
    rw [e1, e2, ih]
theorem low_mod (x : Int) (n : Nat) : low (x % 256 ^ n) n = low x n := by
  have h := low_num (low x n)
  rw [num_low, low_length] at h
  exact h
theorem low_congr {x y : Int} {n : Nat} (h : x % 256 ^ n = y % 256 ^ n) : low x n = low y n := by rw [← low_mod x, h, low_mod]

section
variable {s r : List UInt8} {k : Nat} {t : St}

theorem rget_lowT {x : Int} {n : Nat} (h : s.drop k = low x n ++ r) : rget s ⟨k, 0⟩ n = (x % 256 ^ n, ⟨k + n, 0⟩) ∨ n = 0 := by
  by_cases hn : n = 0
  · exact .inr hn
  refine .inl ?_
  have hl := congrArg List.length h
  rw [List.length_drop, List.length_append, low_length] at hl
  unfold rget
  rw [if_neg (by simp), if_neg (by simp only; omega)]
  simp only
  rw [h, List.take_append_of_le_length (by rw [low_length]; omega), List.take_of_length_le (by rw [low_length]; omega), num_low]
theorem drop_more {a : List UInt8} (h : s.drop k = a ++ r) : s.drop (k + a.length) = r := by
  rw [← List.drop_drop, h, List.drop_append_of_le_length (Nat.le_refl _), List.drop_of_length_le (Nat.le_refl _), List.nil_append]

theorem rget_to {x : Int} {n : Nat} (hn : 0 < n) (h8 : n ≤ 8) (hx : 0 ≤ x ∧ x < 256 ^ n) (h : s.drop k = low (IntKind.wrap .u64 x) n ++ r) : rget s ⟨k, 0⟩ n = (x, ⟨k + n, 0⟩) ∧ s.drop (k + n) = r := by
  have h1 := drop_more h
  rw [low_length] at h1
  refine ⟨?_, h1⟩
  rcases rget_lowT h with e | e
  · rw [e]
    have hp : (256 : Int) ^ n ≤ 2 ^ 64 := by
      have : (256 : Nat) ^ n ≤ 256 ^ 8 := Nat.pow_le_pow_right (by decide) h8
      have h2 := Int.ofNat_le.2 this
      rw [Int.natCast_pow, Int.natCast_pow] at h2
      exact Int.le_trans h2 (by decide)
    have e2 : IntKind.wrap .u64 x = x := by rw [wrap_u64]; exact Int.emod_eq_of_lt hx.1 (by omega)
    rw [e2, Int.emod_eq_of_lt hx.1 hx.2]
  · omega
theorem rget_of {n : Nat} (ht : t.ok s) (h8 : n ≤ 8) (e : (rget s t n).2.err = 0) :
    t.err = 0 ∧ s.drop t.at_ = low (IntKind.wrap .u64 (rget s t n).1) n ++ s.drop (rget s t n).2.at_ := by
  have hr := rget_range s t n
  have hp : (256 : Int) ^ n ≤ 2 ^ 64 := by
    have : (256 : Nat) ^ n ≤ 256 ^ 8 := Nat.pow_le_pow_right (by decide) h8
    have h2 := Int.ofNat_le.2 this
    rw [Int.natCast_pow, Int.natCast_pow] at h2
    exact Int.le_trans h2 (by decide)
  have e2 : IntKind.wrap .u64 (rget s t n).1 = (rget s t n).1 := by rw [wrap_u64]; exact Int.emod_eq_of_lt hr.1 (by omega)
  rw [e2]
  clear e2 hr
  unfold rget at e ⊢
  split at e
  · contradiction
  · split at e
    · simp at e
    · rename_i h1 h2
      rw [if_neg h1, if_neg h2]
      refine ⟨by simpa using h1, ?_⟩
      have := ht.1
      have hlen : ((s.drop t.at_).take n).length = n := by rw [List.length_take, List.length_drop]; omega
      have e3 := low_num ((s.drop t.at_).take n)
      rw [hlen] at e3
      show s.drop t.at_ = low (num ((s.drop t.at_).take n)) n ++ s.drop (t.at_ + n)
      rw [e3, ← List.drop_drop, List.take_append_drop]

/-! words -/
theorem word_to {x : Int} (hx : lo32 ≤ x ∧ x ≤ hi32) (h : s.drop k = low (IntKind.wrap .u64 x) 4 ++ r) : ∃ v, rget s ⟨k, 0⟩ 4 = (v, ⟨k + 4, 0⟩) ∧ sgn v = x ∧ s.drop (k + 4) = r := by
  have h1 := drop_more h
  rw [low_length] at h1
  rcases rget_lowT h with e | e
  · refine ⟨_, e, ?_, h1⟩
    unfold sgn
    rw [wrap_u64, wrap_i32]
    unfold lo32 hi32 at hx
    omega
  · omega
theorem low_sgn (v : Int) : low (IntKind.wrap .u64 (sgn v)) 4 = low (IntKind.wrap .u64 v) 4 := by
  apply low_congr
  unfold sgn
  rw [wrap_u64, wrap_u64, wrap_i32]
  omega
theorem word_of (ht : t.ok s) (e : (rget s t 4).2.err = 0) : t.err = 0 ∧ s.drop t.at_ = low (IntKind.wrap .u64 (sgn (rget s t 4).1)) 4 ++ s.drop (rget s t 4).2.at_ := by
  rw [low_sgn]; exact rget_of ht (by decide) e
theorem sgn_fit (v : Int) : lo32 ≤ sgn v ∧ sgn v ≤ hi32 := by have := sgn_range v; unfold lo32 hi32; omega

/-! bytes, one by one -/
theorem byte_to {x : Int} (hx : 0 ≤ x ∧ x ≤ 255) (h : s.drop k = byt x ++ r) : rget s ⟨k, 0⟩ 1 = (x, ⟨k + 1, 0⟩) ∧ s.drop (k + 1) = r :=
  rget_to (by decide) (by decide) (by omega) h
theorem byte_of (ht : t.ok s) (e : (rget s t 1).2.err = 0) : t.err = 0 ∧ s.drop t.at_ = byt (rget s t 1).1 ++ s.drop (rget s t 1).2.at_ ∧ (0 ≤ (rget s t 1).1 ∧ (rget s t 1).1 ≤ 255) := by
  have hr := rget_range s t 1
  have := rget_of ht (by decide) e
  exact ⟨this.1, this.2, by omega⟩

theorem rbs_to {xs : List Int} (hf : fitR 0 255 xs) (h : s.drop k = bytS xs ++ r) : rbs s xs.length ⟨k, 0⟩ = (xs, ⟨k + xs.length, 0⟩) ∧ s.drop (k + xs.length) = r := by
  have key : ∀ n, n ≤ xs.length → rbs s n ⟨k, 0⟩ = (xs.take n, ⟨k + n, 0⟩) ∧ s.drop (k + n) = bytS (xs.drop n) ++ r := by
    intro n
    induction n with
    | zero => intro _; exact ⟨rfl, h⟩
    | succ n ih =>
      intro hn
      obtain ⟨e, hd⟩ := ih (by omega)
      rw [List.drop_eq_getElem_cons (show n < xs.length by omega)] at hd
      have hd' : s.drop (k + n) = byt xs[n] ++ (bytS (xs.drop (n + 1)) ++ r) := by rw [hd]; unfold bytS; rw [List.flatMap_cons, List.append_assoc]
      have hg := byte_to (hf _ (List.getElem_mem (show n < xs.length by omega))) hd'
      refine ⟨?_, hg.2⟩
      simp only [rbs, e, hg.1]
      rw [List.take_succ_eq_append_getElem (by omega)]
      rfl
  have := key xs.length (Nat.le_refl _)
  rw [List.take_length, List.drop_length] at this
  exact ⟨this.1, this.2⟩
theorem rbs_of (ht : t.ok s) : ∀ n, (rbs s n t).2.err = 0 → t.err = 0 ∧ s.drop t.at_ = bytS (rbs s n t).1 ++ s.drop (rbs s n t).2.at_ ∧ fitR 0 255 (rbs s n t).1
  | 0, e => ⟨e, rfl, fitR_nil _ _⟩
  | n + 1, e => by
    obtain ⟨e1, d1, f1⟩ := byte_of (rbs_ok ht n) e
    obtain ⟨e2, d2, f2⟩ := rbs_of ht n e1
    refine ⟨e2, ?_, ?_⟩
    · rw [d2, d1]
      simp [rbs, bytS]
    · intro x hx
      simp only [rbs, List.mem_append, List.mem_singleton] at hx
      rcases hx with hx | rfl
      · exact f2 x hx
      · exact f1

/-! rows -/
theorem rw_to : ∀ (xs : List Int) (k : Nat), fitR lo32 hi32 xs → s.drop k = words xs ++ r → rw s xs.length ⟨k, 0⟩ = (some xs, ⟨k + 4 * xs.length, 0⟩) ∧ s.drop (k + 4 * xs.length) = r
  | [], k, _, h => ⟨rfl, h⟩
  | x :: u, k, hf, h => by
    rw [fitR_cons] at hf
    have h' : s.drop k = low (IntKind.wrap .u64 x) 4 ++ (words u ++ r) := by rw [h]; simp [words]
    obtain ⟨v, e, hv, hd⟩ := word_to hf.1 h'
    obtain ⟨e2, hd2⟩ := rw_to u (k + 4) hf.2 hd
    have ek : k + 4 + 4 * u.length = k + 4 * (u.length + 1) := by omega
    rw [ek] at e2 hd2
    refine ⟨?_, hd2⟩
    simp only [List.length_cons, rw, e]
    rw [if_neg (by simp), e2, hv]
    rfl
theorem rw_of : ∀ (n : Nat) (t : St), t.ok s → (rw s n t).2.err = 0 → t.err = 0 ∧ ∃ xs, (rw s n t).1 = some xs ∧ xs.length = n ∧ fitR lo32 hi32 xs ∧ s.drop t.at_ = words xs ++ s.drop (rw s n t).2.at_
  | 0, t, _, e => ⟨e, [], rfl, rfl, fitR_nil _ _, rfl⟩
  | n + 1, t, ht, e => by
    simp only [rw] at e ⊢
    by_cases he : (rget s t 4).2.err ≠ 0
    · rw [if_pos he] at e; exact absurd e he
    · rw [if_neg he] at e ⊢
      obtain ⟨e1, xs, h1, h2, h3, h4⟩ := rw_of n (rget s t 4).2 (rget_ok ht 4) e
      obtain ⟨e0, d0⟩ := word_of ht e1
      refine ⟨e0, sgn (rget s t 4).1 :: xs, by show Option.map _ (rw s n (rget s t 4).2).1 = _; rw [h1]; rfl, by simp [h2], by rw [fitR_cons]; exact ⟨sgn_fit _, h3⟩, ?_⟩
      rw [d0, h4]
      simp [words]
theorem rrow_to {xs : List Int} (hl : xs.length ≤ 65535) (hf : fitR lo32 hi32 xs) (h : s.drop k = rowB xs ++ r) : ∃ k', rrow s ⟨k, 0⟩ = (xs, ⟨k', 0⟩) ∧ s.drop k' = r := by
  have hr : rowB xs = low (IntKind.wrap .u64 xs.length) 2 ++ words xs := by unfold rowB; rw [if_neg (by omega)]
  rw [hr, List.append_assoc] at h
  obtain ⟨e, hd⟩ := rget_to (by decide) (by decide) (by omega) h
  obtain ⟨e2, hd2⟩ := rw_to xs (k + 2) hf hd
  refine ⟨_, ?_, hd2⟩
  unfold rrow
  rw [e]
  simp only [Int.toNat_natCast]
  rw [e2]
  rfl
theorem rrow_of (ht : t.ok s) (e : (rrow s t).2.err = 0) : t.err = 0 ∧ s.drop t.at_ = rowB (rrow s t).1 ++ s.drop (rrow s t).2.at_ ∧ (rrow s t).1.length ≤ 65535 ∧ fitR lo32 hi32 (rrow s t).1 := by
  unfold rrow at e ⊢
  have hr := rget_range s t 2
  obtain ⟨e1, xs, h1, h2, h3, h4⟩ := rw_of (rget s t 2).1.toNat (rget s t 2).2 (rget_ok ht 2) e
  obtain ⟨e0, d0⟩ := rget_of ht (by decide) e1
  rw [h1]
  have hl : xs.length ≤ 65535 := by omega
  refine ⟨e0, ?_, hl, h3⟩
  have hw : rowB xs = low (IntKind.wrap .u64 (rget s t 2).1) 2 ++ words xs := by
    unfold rowB
    rw [if_neg (by omega), h2, Int.toNat_of_nonneg hr.1]
  show s.drop t.at_ = rowB xs ++ _
  rw [hw, d0, h4, List.append_assoc]
theorem rw_len (s : List UInt8) : ∀ (n : Nat) (t : St), ((rw s n t).1.getD []).length ≤ n
  | 0, t => Nat.le_refl _
  | n + 1, t => by
    simp only [rw]
    split
    · simp
    · have := rw_len s n (rget s t 4).2
      cases h : (rw s n (rget s t 4).2).1 with
      | none => simp
      | some xs => rw [h] at this; simp at this ⊢; exact this
theorem rrow_len (s : List UInt8) (t : St) : (rrow s t).1.length ≤ 65535 := by
  have h1 := rw_len s (rget s t 2).1.toNat (rget s t 2).2
  have hr := rget_range s t 2
  unfold rrow
  show ((rw s (rget s t 2).1.toNat (rget s t 2).2).1.getD []).length ≤ _
  omega

/-! nodes -/
theorem dNode_short (s : List UInt8) (t : St) : (dNode s t).1.inn.length ≤ 255 ∧ (dNode s t).1.weights.length ≤ 65535 ∧ (dNode s t).1.bias.length ≤ 65535 := by
  unfold dNode
  refine ⟨?_, rrow_len _ _, rrow_len _ _⟩
  have e : (rbs s 2 t).1.getD 1 0 = (rget s (rget s t 1).2 1).1 := rfl
  show (rbs s ((rbs s 2 t).1.getD 1 0).toNat (rbs s 2 t).2).1.length ≤ 255
  rw [rbs_length, e]
  have := rget_range s (rget s t 1).2 1
  omega

theorem bytS_one (x : Int) : bytS [x] = byt x := by simp [bytS]
theorem words_two (x y : Int) : words [x, y] = low (IntKind.wrap .u64 x) 4 ++ low (IntKind.wrap .u64 y) 4 := by simp [words]

theorem dNode_to {n : Nd} (hf : n.fit) (h : s.drop k = n.enc ++ r) : ∃ k', dNode s ⟨k, 0⟩ = (n, ⟨k', 0⟩) ∧ s.drop k' = r := by
  obtain ⟨f1, f2, f3, f4, f5, f6, f7, f8, f9⟩ := hf
  unfold Nd.enc at h
  simp only [List.append_assoc] at h
  obtain ⟨e1, d1⟩ := rbs_to f1 h
  obtain ⟨e2, d2⟩ := rbs_to f2 d1
  obtain ⟨e3, d3⟩ := rbs_to f3 d2
  obtain ⟨k4, e4, d4⟩ := rrow_to f4.1 f4.2 d3
  obtain ⟨k5, e5, d5⟩ := rrow_to f5.1 f5.2 d4
  have f6' := f6 n.mult (by simp)
  obtain ⟨e6, d6⟩ := rget_to (by decide) (by decide) (by omega) d5
  rw [bytS_one] at d6
  obtain ⟨e7, d7⟩ := byte_to (f7 n.shift (by simp)) d6
  rw [words_two, List.append_assoc] at d7
  obtain ⟨v8, e8, s8, d8⟩ := word_to (f8 n.low (by simp)) d7
  obtain ⟨v9, e9, s9, d9⟩ := word_to (f8 n.high (by simp)) d8
  rw [bytS_one] at d9
  obtain ⟨e10, d10⟩ := byte_to (f9 n.post (by simp)) d9
  refine ⟨_, ?_, d10⟩
  have l1 : [n.kind, (n.inn.length : Int)].length = 2 := rfl
  have l3 : [n.width, n.size, n.step, n.gap, n.left, n.right].length = 6 := rfl
  rw [l1] at e1 e2 e3
  rw [l3] at e3
  unfold dNode
  simp only [e1, List.getD_cons_zero, List.getD_cons_succ, Int.toNat_natCast, e2, e3]
  rw [l1, l3] at e4
  simp only [e4, e5, e6, e7, e8, e9, e10, s8, s9]

theorem dNode_of (ht : t.ok s) (e : (dNode s t).2.err = 0) : t.err = 0 ∧ s.drop t.at_ = (dNode s t).1.enc ++ s.drop (dNode s t).2.at_ ∧ (dNode s t).1.fit := by
  unfold dNode at e ⊢
  dsimp only at e ⊢
  have ok1 := rbs_ok ht 2
  have l1 : ∃ x y, (rbs s 2 t).1 = [x, y] := ⟨_, _, rfl⟩
  have o1 := rbs_of ht 2
  generalize rbs s 2 t = a at *
  have ok2 := rbs_ok ok1 (a.1.getD 1 0).toNat
  have l2 := rbs_length s a.2 (a.1.getD 1 0).toNat
  have o2 := rbs_of ok1 (a.1.getD 1 0).toNat
  generalize rbs s (a.1.getD 1 0).toNat a.2 = b at *
  have ok3 := rbs_ok ok2 6
  have l3 : ∃ x0 x1 x2 x3 x4 x5, (rbs s 6 b.2).1 = [x0, x1, x2, x3, x4, x5] := ⟨_, _, _, _, _, _, rfl⟩
  have o3 := rbs_of ok2 6
  generalize rbs s 6 b.2 = c at *
  have ok4 := rrow_ok ok3
  have o4 := rrow_of ok3
  generalize rrow s c.2 = d at *
  have ok5 := rrow_ok ok4
  have o5 := rrow_of ok4
  generalize rrow s d.2 = e5 at *
  have ok6 := rget_ok ok5 2
  have r6 := rget_range s e5.2 2
  have o6 := rget_of (n := 2) ok5 (by decide)
  generalize rget s e5.2 2 = f at *
  have ok7 := rget_ok ok6 1
  have o7 := byte_of ok6
  generalize rget s f.2 1 = g at *
  have ok8 := rget_ok ok7 4
  have o8 := word_of ok7
  generalize rget s g.2 4 = i at *
  have ok9 := rget_ok ok8 4
  have o9 := word_of ok8
  generalize rget s i.2 4 = j at *
  have o10 := byte_of ok9
  generalize rget s j.2 1 = kk at *
  obtain ⟨z9, d10, f10⟩ := o10 e
  obtain ⟨z8, d9⟩ := o9 z9
  obtain ⟨z7, d8⟩ := o8 z8
  obtain ⟨z6, d7, f7⟩ := o7 z7
  obtain ⟨z5, d6⟩ := o6 z6
  obtain ⟨z4, d5, g5, f5⟩ := o5 z5
  obtain ⟨z3, d4, g4, f4⟩ := o4 z4
  obtain ⟨z2, d3, f3⟩ := o3 z3
  obtain ⟨z1, d2, f2⟩ := o2 z2
  obtain ⟨z0, d1, f1⟩ := o1 z1
  obtain ⟨x, y, ea⟩ := l1
  obtain ⟨x0, x1, x2, x3, x4, x5, ec⟩ := l3
  rw [ea] at d1 f1 l2 ⊢
  rw [ec] at d3 f3 ⊢
  simp only [List.getD_cons_zero, List.getD_cons_succ] at l2 ⊢
  have hy := f1 y (by simp)
  have ey : y = (b.1.length : Int) := by omega
  refine ⟨z0, ?_, ?_⟩
  · unfold Nd.enc
    simp only [List.append_assoc, bytS_one, words_two]
    rw [d1, d2, d3, d4, d5, d6, d7, d8, d9, d10, ey]
  · exact ⟨by rw [← ey]; exact f1, f2, f3, ⟨g4, f4⟩, ⟨g5, f5⟩, by rw [fitR_cons]; exact ⟨by dsimp only; omega, fitR_nil _ _⟩, by rw [fitR_cons]; exact ⟨f7, fitR_nil _ _⟩, by rw [fitR_cons, fitR_cons]; exact ⟨sgn_fit _, sgn_fit _, fitR_nil _ _⟩, by rw [fitR_cons]; exact ⟨f10, fitR_nil _ _⟩⟩

/-! graphs -/
theorem rnodes_to {ns : List Nd} (hf : ∀ n ∈ ns, n.fit) (h : s.drop k = ns.flatMap Nd.enc ++ r) : ∃ k', rnodes s ⟨k, 0⟩ ns.length = (ns, ⟨k', 0⟩) ∧ s.drop k' = r := by
  have key : ∀ i, i ≤ ns.length → ∃ k', rnodes s ⟨k, 0⟩ i = (ns.take i, ⟨k', 0⟩) ∧ s.drop k' = (ns.drop i).flatMap Nd.enc ++ r := by
    intro i
    induction i with
    | zero => intro _; exact ⟨k, rfl, h⟩
    | succ i ih =>
      intro hi
      obtain ⟨k', e, hd⟩ := ih (by omega)
      rw [List.drop_eq_getElem_cons (show i < ns.length by omega), List.flatMap_cons, List.append_assoc] at hd
      obtain ⟨k2, e2, hd2⟩ := dNode_to (hf _ (List.getElem_mem (show i < ns.length by omega))) hd
      refine ⟨k2, ?_, hd2⟩
      simp only [rnodes, e, e2]
      rw [List.take_succ_eq_append_getElem (by omega)]
  obtain ⟨k', e, hd⟩ := key ns.length (Nat.le_refl _)
  rw [List.take_length] at e
  rw [List.drop_length] at hd
  exact ⟨k', e, hd⟩
theorem rnodes_of (ht : t.ok s) : ∀ n, (rnodes s t n).2.err = 0 → t.err = 0 ∧ s.drop t.at_ = (rnodes s t n).1.flatMap Nd.enc ++ s.drop (rnodes s t n).2.at_ ∧ ∀ x ∈ (rnodes s t n).1, x.fit
  | 0, e => ⟨e, rfl, fun x hx => by cases hx⟩
  | n + 1, e => by
    obtain ⟨e1, d1, f1⟩ := dNode_of (rnodes_ok ht n) e
    obtain ⟨e2, d2, f2⟩ := rnodes_of ht n e1
    refine ⟨e2, ?_, ?_⟩
    · rw [d2, d1]
      simp [rnodes]
    · intro x hx
      simp only [rnodes, List.mem_append, List.mem_singleton] at hx
      rcases hx with hx | rfl
      · exact f2 x hx
      · exact f1
end

def dG0 (s : List UInt8) : Gr × St :=
  let a := rget s ⟨0, 0⟩ 1
  let b := rget s a.2 4
  let c := rget s b.2 4
  let d := rget s c.2 1
  let e := rnodes s d.2 d.1.toNat
  let f := rget s e.2 1
  (⟨a.1, sgn b.1, sgn c.1, e.1, f.1⟩, f.2)
theorem dG_eq (s : List UInt8) : dG s = if (dG0 s).2.err ≠ 0 then (Gr.zero, 11) else if (s.length : Int) - (dG0 s).2.at_ > 0 then (Gr.zero, 10) else ((dG0 s).1, 0) := rfl

theorem dG0_to {g : Gr} {s r : List UInt8} (hf : g.fit) (h : s = g.enc ++ r) : ∃ k', dG0 s = (g, ⟨k', 0⟩) ∧ s.drop k' = r := by
  obtain ⟨f1, f2, f3, f4, f5⟩ := hf
  have h0 : s.drop 0 = g.enc ++ r := by rw [List.drop_zero]; exact h
  unfold Gr.enc at h0
  simp only [List.append_assoc, bytS_one, words_two] at h0
  obtain ⟨e1, d1⟩ := byte_to (f1 g.width (by simp)) h0
  obtain ⟨v2, e2, s2, d2⟩ := word_to (f2 g.low (by simp)) d1
  obtain ⟨v3, e3, s3, d3⟩ := word_to (f2 g.high (by simp)) d2
  obtain ⟨e4, d4⟩ := byte_to (f3 (g.nodes.length : Int) (by simp)) d3
  obtain ⟨k5, e5, d5⟩ := rnodes_to f4 d4
  obtain ⟨e6, d6⟩ := byte_to (f5 g.out (by simp)) d5
  refine ⟨_, ?_, d6⟩
  unfold dG0
  simp only [e1, e2, e3, e4, Int.toNat_natCast, e5, e6, s2, s3]
theorem okz (s : List UInt8) : St.ok s ⟨0, 0⟩ := ⟨Nat.zero_le _, .inl rfl⟩
theorem dG0_ok (s : List UInt8) : (dG0 s).2.ok s := by
  unfold dG0
  exact rget_ok (rnodes_ok (rget_ok (rget_ok (rget_ok (rget_ok (okz s) 1) 4) 4) 1) _) 1
theorem dG0_of {s : List UInt8} (e : (dG0 s).2.err = 0) : s = (dG0 s).1.enc ++ s.drop (dG0 s).2.at_ ∧ (dG0 s).1.fit := by
  unfold dG0 at e ⊢
  dsimp only at e ⊢
  have ok1 := rget_ok (okz s) 1
  have o1 := byte_of (okz s)
  generalize rget s ⟨0, 0⟩ 1 = a at *
  have ok2 := rget_ok ok1 4
  have o2 := word_of ok1
  generalize rget s a.2 4 = b at *
  have ok3 := rget_ok ok2 4
  have o3 := word_of ok2
  generalize rget s b.2 4 = c at *
  have ok4 := rget_ok ok3 1
  have o4 := byte_of ok3
  generalize rget s c.2 1 = d at *
  have ok5 := rnodes_ok ok4 d.1.toNat
  have l5 := rnodes_length s d.2 d.1.toNat
  have o5 := rnodes_of ok4 d.1.toNat
  generalize rnodes s d.2 d.1.toNat = n at *
  have o6 := byte_of ok5
  generalize rget s n.2 1 = f at *
  obtain ⟨z5, d6, f6⟩ := o6 e
  obtain ⟨z4, d5, f5⟩ := o5 z5
  obtain ⟨z3, d4, f4⟩ := o4 z4
  obtain ⟨z2, d3⟩ := o3 z3
  obtain ⟨z1, d2⟩ := o2 z2
  obtain ⟨z0, d1, f1⟩ := o1 z1
  have ed : d.1 = (n.1.length : Int) := by omega
  refine ⟨?_, ?_⟩
  · have d1' : s = byt a.1 ++ s.drop a.2.at_ := by rw [List.drop_zero] at d1; exact d1
    unfold Gr.enc
    simp only [List.append_assoc, bytS_one, words_two]
    conv => lhs; rw [d1', d2, d3, d4, d5, d6, ed]
  · exact ⟨by rw [fitR_cons]; exact ⟨f1, fitR_nil _ _⟩, by rw [fitR_cons, fitR_cons]; exact ⟨sgn_fit _, sgn_fit _, fitR_nil _ _⟩, by rw [fitR_cons]; exact ⟨by dsimp only; omega, fitR_nil _ _⟩, f5, by rw [fitR_cons]; exact ⟨f6, fitR_nil _ _⟩⟩

theorem dG0_short (s : List UInt8) : (dG0 s).1.nodes.length ≤ 255 ∧ ∀ n ∈ (dG0 s).1.nodes, n.inn.length ≤ 255 ∧ n.weights.length ≤ 65535 ∧ n.bias.length ≤ 65535 := by
  unfold dG0
  dsimp only
  have hr := rget_range s (rget s (rget s (rget s ⟨0, 0⟩ 1).2 4).2 4).2 1
  generalize rget s (rget s (rget s (rget s ⟨0, 0⟩ 1).2 4).2 4).2 1 = d at *
  refine ⟨by rw [rnodes_length]; omega, ?_⟩
  generalize d.1.toNat = k
  induction k with
  | zero => intro n hn; cases hn
  | succ k ih =>
    intro n hn
    simp only [rnodes, List.mem_append, List.mem_singleton] at hn
    rcases hn with hn | rfl
    · exact ih n hn
    · exact dNode_short _ _

/-- What is written is read. -/
theorem dGr_back {g : Gr} (hf : g.fit) : dGr (magic ++ g.enc) = (g, 0) := by
  unfold dGr
  rw [if_pos (List.prefix_append _ _)]
  have e4 : (magic ++ g.enc).drop 4 = g.enc := rfl
  rw [e4]
  obtain ⟨k', e, hd⟩ := dG0_to (s := g.enc) (r := []) hf (List.append_nil _).symm
  have hl := congrArg List.length hd
  rw [List.length_drop, List.length_nil] at hl
  rw [dG_eq, e, if_neg (by simp), if_neg (by simp only; omega)]
/-- With something behind it, it is not. -/
theorem dGr_more {g : Gr} (hf : g.fit) {r : List UInt8} (hr : r ≠ []) : dGr (magic ++ g.enc ++ r) = (Gr.zero, 10) := by
  unfold dGr
  rw [List.append_assoc, if_pos (List.prefix_append _ _)]
  have e4 : (magic ++ (g.enc ++ r)).drop 4 = g.enc ++ r := rfl
  rw [e4]
  obtain ⟨k', e, hd⟩ := dG0_to (s := g.enc ++ r) (r := r) hf rfl
  have hl := congrArg List.length hd
  rw [List.length_drop] at hl
  have hr' : 0 < r.length := List.length_pos_iff.2 hr
  rw [dG_eq, e, if_neg (by simp), if_pos (by simp only; omega)]
/-- What is read is what was written. -/
theorem dGr_once {s : List UInt8} (h : (dGr s).2 = 0) : (dGr s).1.fit ∧ s = magic ++ (dGr s).1.enc := by
  unfold dGr at h ⊢
  by_cases hp : magic <+: s
  · rw [if_pos hp] at h ⊢
    obtain ⟨u, rfl⟩ := hp
    have e4 : (magic ++ u).drop 4 = u := rfl
    rw [e4] at h ⊢
    rw [dG_eq] at h ⊢
    by_cases he : (dG0 u).2.err ≠ 0
    · rw [if_pos he] at h; simp at h
    · rw [if_neg he] at h ⊢
      by_cases hl : (u.length : Int) - (dG0 u).2.at_ > 0
      · rw [if_pos hl] at h; simp at h
      · rw [if_neg hl] at h ⊢
        have ho := dG0_of (s := u) (by simpa using he)
        refine ⟨ho.2, ?_⟩
        have e := ho.1
        rw [List.drop_of_length_le (by omega), List.append_nil] at e
        show magic ++ u = magic ++ (dG0 u).1.enc
        rw [← e]
  · rw [if_neg hp] at h; simp at h
/-- Of a part of what was written, nothing is read. -/
theorem dGr_cut {g : Gr} (hf : g.fit) {c : Nat} (hc : c < (magic ++ g.enc).length) : dGr ((magic ++ g.enc).take c) = (Gr.zero, if c < 4 then 10 else 11) := by
  unfold dGr
  have hml : magic.length = 4 := rfl
  by_cases h4 : c < 4
  · rw [if_pos h4, if_neg]
    intro hp
    have := hp.length_le
    rw [List.length_take] at this
    omega
  · rw [if_neg h4]
    have e : (magic ++ g.enc).take c = magic ++ g.enc.take (c - 4) := by
      rw [List.take_append, List.take_of_length_le (by omega), hml]
    rw [e, if_pos (List.prefix_append _ _)]
    have e4 : (magic ++ g.enc.take (c - 4)).drop 4 = g.enc.take (c - 4) := rfl
    rw [e4, dG_eq, if_pos]
    intro he
    rw [List.length_append, hml] at hc
    obtain ⟨e1, f1⟩ := dG0_of he
    have e2 : g.enc = (dG0 (g.enc.take (c - 4))).1.enc ++ ((g.enc.take (c - 4)).drop (dG0 (g.enc.take (c - 4))).2.at_ ++ g.enc.drop (c - 4)) := by
      rw [← List.append_assoc, ← e1, List.take_append_drop]
    obtain ⟨k1, h1, d1⟩ := dG0_to (s := g.enc) (r := []) hf (List.append_nil _).symm
    obtain ⟨k2, h2, d2⟩ := dG0_to f1 e2
    rw [h1] at h2
    have ek : k1 = k2 := congrArg (fun x => x.2.at_) h2
    rw [← ek, d1] at d2
    have := congrArg List.length d2
    simp only [List.length_nil, List.length_append, List.length_drop] at this
    omega

theorem dGr_zero {s : List UInt8} (h : (dGr s).2 ≠ 0) : (dGr s).1 = Gr.zero := by
  unfold dGr at h ⊢
  split
  · rename_i hp
    rw [if_pos hp] at h
    rw [dG_eq] at h ⊢
    split
    · rfl
    · split
      · rfl
      · rename_i h1 h2
        rw [if_neg h1, if_neg h2] at h
        exact absurd rfl h
  · rfl
theorem dGr_short (s : List UInt8) : (dGr s).1.nodes.length ≤ 255 ∧ ∀ n ∈ (dGr s).1.nodes, n.inn.length ≤ 255 ∧ n.weights.length ≤ 65535 ∧ n.bias.length ≤ 65535 := by
  by_cases h : (dGr s).2 = 0
  · have hp : magic <+: s := ⟨_, (dGr_once h).2.symm⟩
    unfold dGr at h ⊢
    rw [if_pos hp] at h ⊢
    rw [dG_eq] at h ⊢
    split
    · exact ⟨by decide, fun n hn => by cases hn⟩
    · split
      · exact ⟨by decide, fun n hn => by cases hn⟩
      · exact dG0_short _
  · rw [dGr_zero h]
    exact ⟨by decide, fun n hn => by cases hn⟩

end Go.Proofs.Ytdjofpdmdbcgjad.G
