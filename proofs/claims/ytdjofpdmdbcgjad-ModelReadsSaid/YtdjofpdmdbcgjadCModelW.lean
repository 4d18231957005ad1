/- Contracts: package model's writer, and Encode. -/
import Derived.Test.YtdjofpdmdbcgjadCNode
namespace Go.Proofs.Ytdjofpdmdbcgjad.G
open Go Go.Sh
set_option linter.unusedVariables false

/-- A graph's writer; its bytes. -/
abbrev wv (b : Nat) (p : Option Addr) (c : Nat) (bs : List UInt8) (bad : Bool) : Fact := wx b (bs.length : Int) p bs.length c [.bool bad]
abbrev wo (p : Option Addr) (c : Nat) (bs : List UInt8) : Fact := own 1 p bs.length c (u8s bs)

section
variable {h : Heap} {T : Nat → Prop} {R : List Fact} {b c : Nat} {p : Option Addr} {bs : List UInt8} {bad : Bool}

theorem wrote_v {h' : Heap} {new : List UInt8} (w : Wrote T b (bs.length : Int) bs.length [.bool bad] bs new h h') : ∃ p' c', Sep h T h' [wv b p' c' (bs ++ new) bad, wo p' c' (bs ++ new)] [] := by
  obtain ⟨p', c', S⟩ := w
  have e1 : (bs.length : Int) + (new.length : Int) = ((bs ++ new).length : Int) := by simp
  have e2 : bs.length + new.length = (bs ++ new).length := by simp
  rw [e1, e2] at S
  exact ⟨p', c', S⟩
theorem Byte_B (x : Int) (S : Sep h T h [wv b p c bs bad, wo p c bs] []) (hl : bs.length < 2 ^ 40) : callP P n_tape_Writer_Byte #[.pointer (some ⟨b, 0, none⟩), .int .i64 x] h fun v h' => v = .tuple #[] ∧ ∃ p' c', Sep h T h' [wv b p' c' (bs ++ byt x) bad, wo p' c' (bs ++ byt x)] [] :=
  (Byte_W x S hl (by omega)).mono fun v h' ⟨hv, w⟩ => ⟨hv, wrote_v w⟩
theorem Short_B (x : Int) (S : Sep h T h [wv b p c bs bad, wo p c bs] []) (hl : bs.length < 2 ^ 40) : callP P n_tape_Writer_Short #[.pointer (some ⟨b, 0, none⟩), .int .i64 x] h fun v h' => v = .tuple #[] ∧ ∃ p' c', Sep h T h' [wv b p' c' (bs ++ low (IntKind.wrap .u64 x) 2) bad, wo p' c' (bs ++ low (IntKind.wrap .u64 x) 2)] [] :=
  (Short_W x S hl (by omega)).mono fun v h' ⟨hv, w⟩ => ⟨hv, wrote_v w⟩
theorem Word_B (x : Int) (S : Sep h T h [wv b p c bs bad, wo p c bs] []) (hl : bs.length < 2 ^ 40) : callP P n_tape_Writer_Word #[.pointer (some ⟨b, 0, none⟩), .int .i64 x] h fun v h' => v = .tuple #[] ∧ ∃ p' c', Sep h T h' [wv b p' c' (bs ++ low (IntKind.wrap .u64 x) 4) bad, wo p' c' (bs ++ low (IntKind.wrap .u64 x) 4)] [] :=
  (Word_W x S hl (by omega)).mono fun v h' ⟨hv, w⟩ => ⟨hv, wrote_v w⟩
theorem Row_B {q : Option Addr} {k d : Nat} {xs : List Int} (S : Sep h T h [wv b p c bs bad, wo p c bs] [row q (ints xs)]) (hxs : xs.length = k) (hl : bs.length < 2 ^ 39) (hk : k ≤ 2 ^ 20) :
    callP P n_tape_Writer_Row #[.pointer (some ⟨b, 0, none⟩), .slice q k d] h fun v h' => v = .tuple #[] ∧ ∃ p' c', Sep h T h' [wv b p' c' (bs ++ rowB xs) bad, wo p' c' (bs ++ rowB xs)] [] :=
  (Row_W S hxs hl (by omega)).mono fun v h' ⟨hv, w⟩ => ⟨hv, wrote_v w⟩

theorem fits_S {n : Int} {l : Nat} (S : Sep h T h [wx b n p l c [.bool bad]] R) (ix : Nat) {q : Option Addr} {k d : Nat} {xs : List Int} (ex : R[ix]? = some (row q (ints xs))) (hk : xs.length = k) (hk2 : k < 2 ^ 62) (lo hi : Int) :
    callP P n_model_writer_fits #[.pointer (some ⟨b, 0, none⟩), .int .i64 lo, .int .i64 hi, .slice q k d] h fun v h' => v = .tuple #[] ∧ Sep h T h' [wx b n p l c [.bool (bad || !decide (fitR lo hi xs))]] R := by
  refine call_model_writer_fits _ _ _ _ _ _ ?_
  unfold model_writer_fits
  refine LoopS_i (fun m s g => ∃ i : Nat, s = (some ⟨b, 0, none⟩, lo, hi, (q, k, d), (k : Int), (i : Int), ()) ∧ i ≤ k ∧ m = k - i ∧ Sep h T g [wx b n p l c [.bool (bad || !decide (fitR lo hi (xs.take i)))]] R) k
    ⟨0, rfl, by omega, rfl, by simpa [fitR_nil] using S⟩ ?_
  rintro m s g ⟨i, rfl, hi', rfl, S⟩
  unfold model_writer_fits_l1
  dsimp only
  refine ifB_dec (fun hlt => ?_) (fun hge => ?_)
  · have hix : i < xs.length := by omega
    have hx := S.row ix ex
    obtain ⟨aa, rfl⟩ := hx.some_of (by rw [ints_length]; omega)
    refine idxI_i rfl rfl (by omega) ?_
    simp only [Int.toNat_natCast, Nat.mul_one]
    refine ldInt_i (hx.cell (ints_get (List.getElem?_eq_getElem hix))) ?_
    rw [wrap64_in (by omega)]
    have key : ∀ g' v, v = (bad || !decide (fitR lo hi (xs.take (i + 1)))) → Sep h T g' [wx b n p l c [.bool v]] R → ∃ m, m < k - i ∧ ∃ i' : Nat, ((some (⟨b, 0, none⟩ : Addr), lo, hi, (some aa, k, d), (k : Int), (i : Int) + 1, ()) : Option Addr × Int × Int × (Option Addr × Nat × Nat) × Int × Int × Unit) = (some ⟨b, 0, none⟩, lo, hi, (some aa, k, d), (k : Int), (i' : Int), ()) ∧ i' ≤ k ∧ m = k - i' ∧ Sep h T g' [wx b n p l c [.bool (bad || !decide (fitR lo hi (xs.take i')))]] R :=
      fun g' v hv S => ⟨k - (i + 1), by omega, i + 1, rfl, by omega, rfl, by rw [← hv]; exact S⟩
    have hs := fitR_take_succ (lo := lo) (hi := hi) hix
    (repeat (first | with_reducible refine nilI_some ?_ | ((with_reducible refine ldBool_id ?_); refine ldBool_i (S.cell 0 rfl rfl) ?_)))
    refine ifB_i (fun e => ?_) (fun e => ?_)
    · (repeat (first | with_reducible refine nilI_some ?_ | ((with_reducible refine stI_id ?_); refine stI_S S 0 rfl (Nat.le_of_ble_eq_true rfl) (fun _ _ S => ?_); try dsimp only [List.set, List.cons_append, List.nil_append] at S)))
      refine key _ true ?_ S
      rcases Bool.or_eq_true _ _ ▸ e with e | e
      · rw [e]; rfl
      · rw [Bool.not_eq_true', decide_eq_false_iff_not] at e
        rw [decide_eq_false (fun h => e (hs.1 h).1)]; simp
    · rw [Bool.or_eq_false_iff] at e
      have e2 : fitR lo hi (xs.take i) := by have := e.2; simpa using this
      refine ifB_dec (fun h1 => ?_) (fun h1 => ?_)
      · (repeat (first | with_reducible refine nilI_some ?_ | ((with_reducible refine stI_id ?_); refine stI_S S 0 rfl (Nat.le_of_ble_eq_true rfl) (fun _ _ S => ?_); try dsimp only [List.set, List.cons_append, List.nil_append] at S)))
        refine key _ true ?_ S
        rw [decide_eq_false (fun h => by have := (hs.1 h).2; omega)]; simp
      · (repeat (first | with_reducible refine nilI_some ?_ | ((with_reducible refine stI_id ?_); refine stI_S S 0 rfl (Nat.le_of_ble_eq_true rfl) (fun _ _ S => ?_); try dsimp only [List.set, List.cons_append, List.nil_append] at S)))
        refine key _ _ ?_ S
        rw [e.1, Bool.false_or, ← decide_not, decide_eq_decide, hs]
        constructor
        · rintro h3 ⟨_, h4⟩; omega
        · intro h3; apply Decidable.byContradiction; intro h4; exact h3 ⟨e2, by omega⟩
  · have : i = k := by omega
    subst this
    rw [List.take_of_length_le (by omega)] at S
    exact ⟨by trivial, S⟩

theorem small_S (S : Sep h T h [wv b p c bs bad, wo p c bs] R) (ix : Nat) {q : Option Addr} {k d : Nat} {xs : List Int} (ex : R[ix]? = some (row q (ints xs))) (hk : xs.length = k) (hl : bs.length + k < 2 ^ 40) :
    callP P n_model_writer_small #[.pointer (some ⟨b, 0, none⟩), .slice q k d] h fun v h' => v = .tuple #[] ∧ ∃ p' c', Sep h T h' [wv b p' c' (bs ++ bytS xs) (bad || !decide (fitR 0 255 xs)), wo p' c' (bs ++ bytS xs)] R := by
  refine call_model_writer_small _ _ _ _ ?_
  unfold model_writer_small
  have P0 := S.into [0] [] [ix]
  have e0 : Sh.pick R [ix] = [row q (ints xs)] := by simp only [Sh.pick, ex]
  rw [e0] at P0
  refine (fits_S P0 0 rfl hk (by omega) 0 255).mono ?_
  rintro _ _ ⟨rfl, S1⟩
  refine ⟨rfl, ?_⟩
  replace S := S.back [0] S1
  try dsimp only [merge, List.set, List.cons_append, List.nil_append] at S
  generalize (bad || !decide (fitR 0 255 xs)) = bd at S
  refine LoopS_i (fun m s g => ∃ (i : Nat) (p' : Option Addr) (c' : Nat), s = (some ⟨b, 0, none⟩, (q, k, d), (k : Int), (i : Int), ()) ∧ i ≤ k ∧ m = k - i ∧ Sep h T g [wv b p' c' (bs ++ bytS (xs.take i)) bd, wo p' c' (bs ++ bytS (xs.take i))] R) k
    ⟨0, p, c, rfl, by omega, rfl, by simpa [bytS] using S⟩ ?_
  rintro m s g ⟨i, p', c', rfl, hi', rfl, S⟩
  unfold model_writer_small_l2
  dsimp only
  refine ifB_dec (fun hlt => ?_) (fun hge => ?_)
  · have hix : i < xs.length := by omega
    have hx := S.row ix ex
    obtain ⟨aa, rfl⟩ := hx.some_of (by rw [ints_length]; omega)
    refine idxI_i rfl rfl (by omega) ?_
    simp only [Int.toNat_natCast, Nat.mul_one]
    refine ldInt_i (hx.cell (ints_get (List.getElem?_eq_getElem hix))) (nilI_some ?_)
    refine (Byte_B xs[i] (S.into [0, 1] [] []) (by rw [List.length_append, bytS_length, List.length_take]; omega)).mono ?_
    rintro _ _ ⟨rfl, p2, c2, S1⟩
    refine ⟨rfl, ?_⟩
    replace S := S.back [0,1] S1
    try dsimp only [merge, List.set, List.cons_append, List.nil_append] at S
    rw [List.append_assoc, ← bytS_snoc hix] at S
    rw [wrap64_in (by omega)]
    exact ⟨k - (i + 1), by omega, i + 1, p2, c2, rfl, by omega, rfl, S⟩
  · have : i = k := by omega
    subst this
    rw [List.take_of_length_le (by omega)] at S
    exact ⟨by trivial, p', c', S⟩

theorem words_S (S : Sep h T h [wv b p c bs bad, wo p c bs] R) (ix : Nat) {q : Option Addr} {k d : Nat} {xs : List Int} (ex : R[ix]? = some (row q (ints xs))) (hk : xs.length = k) (hl : bs.length + 4 * k < 2 ^ 40) :
    callP P n_model_writer_words #[.pointer (some ⟨b, 0, none⟩), .slice q k d] h fun v h' => v = .tuple #[] ∧ ∃ p' c', Sep h T h' [wv b p' c' (bs ++ words xs) (bad || !decide (fitR lo32 hi32 xs)), wo p' c' (bs ++ words xs)] R := by
  refine call_model_writer_words _ _ _ _ ?_
  unfold model_writer_words
  have P0 := S.into [0] [] [ix]
  have e0 : Sh.pick R [ix] = [row q (ints xs)] := by simp only [Sh.pick, ex]
  rw [e0] at P0
  refine (fits_S P0 0 rfl hk (by omega) lo32 hi32).mono ?_
  rintro _ _ ⟨rfl, S1⟩
  refine ⟨rfl, ?_⟩
  replace S := S.back [0] S1
  try dsimp only [merge, List.set, List.cons_append, List.nil_append] at S
  generalize (bad || !decide (fitR lo32 hi32 xs)) = bd at S
  refine LoopS_i (fun m s g => ∃ (i : Nat) (p' : Option Addr) (c' : Nat), s = (some ⟨b, 0, none⟩, (q, k, d), (k : Int), (i : Int), ()) ∧ i ≤ k ∧ m = k - i ∧ Sep h T g [wv b p' c' (bs ++ words (xs.take i)) bd, wo p' c' (bs ++ words (xs.take i))] R) k
    ⟨0, p, c, rfl, by omega, rfl, by simpa [words] using S⟩ ?_
  rintro m s g ⟨i, p', c', rfl, hi', rfl, S⟩
  unfold model_writer_words_l2
  dsimp only
  refine ifB_dec (fun hlt => ?_) (fun hge => ?_)
  · have hix : i < xs.length := by omega
    have hx := S.row ix ex
    obtain ⟨aa, rfl⟩ := hx.some_of (by rw [ints_length]; omega)
    refine idxI_i rfl rfl (by omega) ?_
    simp only [Int.toNat_natCast, Nat.mul_one]
    refine ldInt_i (hx.cell (ints_get (List.getElem?_eq_getElem hix))) (nilI_some ?_)
    refine (Word_B xs[i] (S.into [0, 1] [] []) (by rw [List.length_append, words_length, List.length_take]; omega)).mono ?_
    rintro _ _ ⟨rfl, p2, c2, S1⟩
    refine ⟨rfl, ?_⟩
    replace S := S.back [0,1] S1
    try dsimp only [merge, List.set, List.cons_append, List.nil_append] at S
    rw [List.append_assoc, ← words_snoc hix] at S
    rw [wrap64_in (by omega)]
    exact ⟨k - (i + 1), by omega, i + 1, p2, c2, rfl, by omega, rfl, S⟩
  · have : i = k := by omega
    subst this
    rw [List.take_of_length_le (by omega)] at S
    exact ⟨by trivial, p', c', S⟩

/-- Rows. -/
def rowsB (ss : List Sl) : List UInt8 := ss.flatMap fun s => rowB s.xs
def rowsF (ss : List Sl) : Prop := ∀ s ∈ ss, s.xs.length ≤ 65535 ∧ fitR lo32 hi32 s.xs
instance (ss : List Sl) : Decidable (rowsF ss) := by unfold rowsF; infer_instance


end

end Go.Proofs.Ytdjofpdmdbcgjad.G
