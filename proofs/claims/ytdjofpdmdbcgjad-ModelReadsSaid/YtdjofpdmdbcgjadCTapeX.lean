/- Contracts: package tape's writer, and the document's (earshotref06). -/
import Derived.Test.YtdjofpdmdbcgjadGen
import Derived.Test.YtdjofpdmdbcgjadShB
namespace Go.Proofs.Ytdjofpdmdbcgjad.G
open Go Go.Sh
set_option linter.unusedVariables false

/-- A writer, with what stands behind it in its block. -/
abbrev wx (b : Nat) (n : Int) (p : Option Addr) (l c : Nat) (r : List Value) : Fact := blk b (.int .i64 n :: .slice p l c :: r)

theorem moved_S {h : Heap} {T : Nat → Prop} {b : Nat} {cs : List Value} {R : List Fact} {x : Int} (n : Int) (S : Sep h T h [blk b cs] R) (hc : cs[0]? = some (.int .i64 x)) :
    callP P n_tape_place_moved #[.pointer (some ⟨b, 0, none⟩), .int .i64 n] h fun v h' => v = .tuple #[] ∧ Sep h T h' [blk b (cs.set 0 (.int .i64 (IntKind.wrap .i64 (x + n))))] R := by
  refine call_tape_place_moved _ _ ?_
  unfold tape_place_moved
  refine nilI_some (ldInt_i (S.cell 0 rfl hc) (nilI_some ?_))
  exact stI_S S 0 rfl (List.getElem?_eq_some_iff.1 hc).1 fun h' _ S => ⟨rfl, S⟩

theorem told_ok {h : Heap} {b : Nat} {x : Int} (hc : cellH h ⟨b, 0, none⟩ = some (.int .i64 x)) : callP P n_tape_place_told #[.pointer (some ⟨b, 0, none⟩)] h fun v h' => v = .int .i64 x ∧ h' = h := by
  refine call_tape_place_told _ ?_
  unfold tape_place_told
  exact nilI_some (ldInt_i hc ⟨rfl, rfl⟩)

theorem put_S {h : Heap} {T : Nat → Prop} {b : Nat} {n : Int} {r : List Value} {p : Option Addr} {l c : Nat} {bs : List UInt8} {x : Int} {k : Nat} (S : Sep h T h [wx b n p l c r, own 1 p l c (u8s bs)] [])
    (hx : 0 ≤ x) (hk : k ≤ 8) (hl : l < 2 ^ 40) (hn : 0 ≤ n ∧ n < 2 ^ 62) : callP P n_tape_Writer_put #[.pointer (some ⟨b, 0, none⟩), .int .u64 x, .int .i64 k] h fun v h' =>
      v = .tuple #[] ∧ ∃ p' c', Sep h T h' [wx b (n + k) p' (l + k) c' r, own 1 p' (l + k) c' (u8s (bs ++ low x k))] [] := by
  refine call_tape_Writer_put _ _ _ ?_
  unfold tape_Writer_put
  refine ifB_false rfl ?_
  refine LoopS_i (fun m s g => ∃ (i : Nat) (q : Option Addr) (e : Nat), s = (some ⟨b, 0, none⟩, x / 256 ^ i, (k : Int), (k : Int), (i : Int), ()) ∧ i ≤ k ∧ m = k - i ∧ Sep h T g [wx b n q (l + i) e r, own 1 q (l + i) e (u8s (bs ++ low x i))] [])
    k ⟨0, p, c, by simp, by omega, rfl, by simpa [low] using S⟩ ?_
  rintro m s g ⟨i, q, e, rfl, hi, rfl, S⟩
  unfold tape_Writer_put_l2
  dsimp only
  refine ifB_dec (fun hlt => ?_) (fun hge => ?_)
  · (repeat (first | with_reducible refine nilI_some ?_ | ((with_reducible refine ldSlice_id ?_); refine ldSlice_i (S.cell 0 rfl rfl) ?_)))
    refine newI_S S (fun b4 _ _ S => ?_)
    refine appI_S S 1 (ys := u8s [lowByte (x / 256 ^ i)]) rfl rfl (by decide) (by omega) (Row.of_at (by have := S.at 2 rfl; rw [wrap_u8, ← lowByte_toNat] at this; exact this)) rfl (u8s_one _) fun p' l' c' h' hl' S => ?_
    rw [← u8s_append, List.append_assoc, ← low_snoc] at S
    (repeat (first | with_reducible refine nilI_some ?_ | ((with_reducible refine stI_id ?_); refine stI_S S 0 rfl (Nat.le_of_ble_eq_true rfl) (fun _ _ S => ?_); try dsimp only [List.set, List.cons_append, List.nil_append] at S)))
    rw [wrap64_in (by omega)]
    subst hl'
    refine ⟨k - (i + 1), by omega, i + 1, p', c', ?_, by omega, rfl, S.pick [0, 1] []⟩
    rw [shrI_ediv, ← div_pow_succ]
    rfl
  · have hik : i = k := by omega
    subst hik
    (repeat (first | with_reducible refine nilI_some ?_))
    refine (moved_S (x := n) _ (S.into [0] [] []) rfl).mono ?_
    rintro _ _ ⟨rfl, S1⟩
    replace S := S.back [0] S1
    refine ⟨rfl, rfl, q, e, ?_⟩
    rw [wrap64_in (by omega)] at S
    exact S

theorem put_nil {h : Heap} (x : Int) (k : Int) : callP P n_tape_Writer_put #[.pointer none, .int .u64 x, .int .i64 k] h fun v h' => v = .tuple #[] ∧ h' = h := by
  refine call_tape_Writer_put _ _ _ ?_
  unfold tape_Writer_put
  exact ifB_true rfl ⟨rfl, rfl⟩

/-- What a writer's method leaves: some more bytes. -/
def Wrote (T : Nat → Prop) (b : Nat) (n : Int) (l : Nat) (r : List Value) (bs new : List UInt8) (h h' : Heap) : Prop :=
  ∃ p' c', Sep h T h' [wx b (n + new.length) p' (l + new.length) c' r, own 1 p' (l + new.length) c' (u8s (bs ++ new))] []

section
variable {h : Heap} {T : Nat → Prop} {b : Nat} {n : Int} {r : List Value} {p : Option Addr} {l c : Nat} {bs : List UInt8}

theorem put_W {x : Int} {k : Nat} (S : Sep h T h [wx b n p l c r, own 1 p l c (u8s bs)] []) (hx : 0 ≤ x) (hk : k ≤ 8) (hl : l < 2 ^ 40) (hn : 0 ≤ n ∧ n < 2 ^ 62) :
    callP P n_tape_Writer_put #[.pointer (some ⟨b, 0, none⟩), .int .u64 x, .int .i64 k] h fun v h' => v = .tuple #[] ∧ Wrote T b n l r bs (low x k) h h' :=
  (put_S S hx hk hl hn).mono fun v h' ⟨hv, p', c', S⟩ => ⟨hv, p', c', by rw [low_length]; exact S⟩

theorem u64_pos (x : Int) : 0 ≤ IntKind.wrap .u64 x := by rw [wrap_u64]; exact Int.emod_nonneg _ (by decide)

theorem Byte_W (x : Int) (S : Sep h T h [wx b n p l c r, own 1 p l c (u8s bs)] []) (hl : l < 2 ^ 40) (hn : 0 ≤ n ∧ n < 2 ^ 62) :
    callP P n_tape_Writer_Byte #[.pointer (some ⟨b, 0, none⟩), .int .i64 x] h fun v h' => v = .tuple #[] ∧ Wrote T b n l r bs (low (IntKind.wrap .u64 x) 1) h h' := by
  refine call_tape_Writer_Byte _ _ ?_
  unfold tape_Writer_Byte
  refine (put_W (k := 1) S (u64_pos x) (by decide) hl hn).mono ?_
  rintro _ _ ⟨rfl, H⟩
  exact ⟨rfl, rfl, H⟩
theorem Short_W (x : Int) (S : Sep h T h [wx b n p l c r, own 1 p l c (u8s bs)] []) (hl : l < 2 ^ 40) (hn : 0 ≤ n ∧ n < 2 ^ 62) :
    callP P n_tape_Writer_Short #[.pointer (some ⟨b, 0, none⟩), .int .i64 x] h fun v h' => v = .tuple #[] ∧ Wrote T b n l r bs (low (IntKind.wrap .u64 x) 2) h h' := by
  refine call_tape_Writer_Short _ _ ?_
  unfold tape_Writer_Short
  refine (put_W (k := 2) S (u64_pos x) (by decide) hl hn).mono ?_
  rintro _ _ ⟨rfl, H⟩
  exact ⟨rfl, rfl, H⟩
theorem Word_W (x : Int) (S : Sep h T h [wx b n p l c r, own 1 p l c (u8s bs)] []) (hl : l < 2 ^ 40) (hn : 0 ≤ n ∧ n < 2 ^ 62) :
    callP P n_tape_Writer_Word #[.pointer (some ⟨b, 0, none⟩), .int .i64 x] h fun v h' => v = .tuple #[] ∧ Wrote T b n l r bs (low (IntKind.wrap .u64 x) 4) h h' := by
  refine call_tape_Writer_Word _ _ ?_
  unfold tape_Writer_Word
  refine (put_W (k := 4) S (u64_pos x) (by decide) hl hn).mono ?_
  rintro _ _ ⟨rfl, H⟩
  exact ⟨rfl, rfl, H⟩
end

/-- The words of a row. -/
def words (xs : List Int) : List UInt8 := xs.flatMap fun x => low (IntKind.wrap .u64 x) 4
theorem words_length (xs : List Int) : (words xs).length = 4 * xs.length := by
  induction xs with
  | nil => rfl
  | cons x u ih => simp only [words, List.flatMap_cons, List.length_append, low_length, List.length_cons] at *; omega
theorem words_snoc {xs : List Int} {i : Nat} (hi : i < xs.length) : words (xs.take (i + 1)) = words (xs.take i) ++ low (IntKind.wrap .u64 xs[i]) 4 := by
  rw [List.take_succ_eq_append_getElem hi]
  unfold words
  rw [List.flatMap_append]; simp only [List.flatMap_cons, List.flatMap_nil, List.append_nil]
def rowB (xs : List Int) : List UInt8 := if xs.length > 65535 then [] else low (IntKind.wrap .u64 xs.length) 2 ++ words xs
theorem rowB_length (xs : List Int) : (rowB xs).length ≤ 2 + 4 * xs.length := by
  unfold rowB
  split
  · simp
  · simp [low_length, words_length]

theorem Row_W {h : Heap} {T : Nat → Prop} {b : Nat} {n : Int} {r : List Value} {p q : Option Addr} {l c k d : Nat} {bs : List UInt8} {xs : List Int} (S : Sep h T h [wx b n p l c r, own 1 p l c (u8s bs)] [row q (ints xs)]) (hxs : xs.length = k)
    (hl : l < 2 ^ 39) (hn : 0 ≤ n ∧ n < 2 ^ 61) : callP P n_tape_Writer_Row #[.pointer (some ⟨b, 0, none⟩), .slice q k d] h fun v h' => v = .tuple #[] ∧ Wrote T b n l r bs (rowB xs) h h' := by
  refine call_tape_Writer_Row _ _ _ _ ?_
  unfold tape_Writer_Row
  refine ifB_dec (fun hgt => ?_) (fun hle => ?_)
  · refine ⟨rfl, p, c, ?_⟩
    have : rowB xs = [] := by unfold rowB; rw [if_pos (by omega)]
    rw [this, List.append_nil]
    exact (Int.add_zero n).symm ▸ S.pick [0, 1] []
  · refine (Short_W (k : Int) (S.into [0, 1] [] []) (by omega) (by omega)).mono ?_
    rintro _ h1 ⟨rfl, p1, c1, S1⟩
    refine ⟨rfl, ?_⟩
    rw [low_length] at S1
    replace S := S.back [0, 1] S1
    refine LoopS_i (fun m s g => ∃ (i : Nat) (p' : Option Addr) (c' : Nat), s = (some ⟨b, 0, none⟩, (q, k, d), (k : Int), (i : Int), ()) ∧ i ≤ k ∧ m = k - i ∧
      Sep h T g [wx b (n + (2 + 4 * i : Nat)) p' (l + (2 + 4 * i)) c' r, own 1 p' (l + (2 + 4 * i)) c' (u8s (bs ++ (low (IntKind.wrap .u64 k) 2 ++ words (xs.take i))))] [row q (ints xs)]) k
      ⟨0, p1, c1, rfl, by omega, rfl, by simp [words]; exact S⟩ ?_
    rintro m s g ⟨i, p', c', rfl, hi, rfl, S⟩
    unfold tape_Writer_Row_l3
    dsimp only
    refine ifB_dec (fun hlt => ?_) (fun hge => ?_)
    · have hlt' : i < xs.length := by omega
      obtain ⟨a, rfl⟩ := (S.row 0 rfl).some_of (by rw [ints_length]; omega)
      refine idxI_i rfl rfl (by omega) ?_
      simp only [Int.toNat_natCast, Nat.mul_one]
      refine ldInt_i ((S.row 0 rfl).cell (ints_get (List.getElem?_eq_getElem hlt'))) ?_
      refine (Word_W xs[i] (S.into [0, 1] [] []) (by omega) (by omega)).mono ?_
      rintro _ h2 ⟨rfl, p2, c2, S1⟩
      refine ⟨rfl, ?_⟩
      rw [low_length] at S1
      replace S := S.back [0, 1] S1
      rw [wrap64_in (by omega)]
      refine ⟨k - (i + 1), by omega, i + 1, p2, c2, rfl, by omega, rfl, ?_⟩
      rw [words_snoc hlt', ← List.append_assoc, ← List.append_assoc]
      have e1 : n + ((2 + 4 * (i + 1) : Nat) : Int) = n + ((2 + 4 * i : Nat) : Int) + ((4 : Nat) : Int) := by omega
      have e2 : l + (2 + 4 * (i + 1)) = l + (2 + 4 * i) + 4 := by omega
      rw [e1, e2]
      rw [← List.append_assoc] at S
      exact S
    · have hik : i = k := by omega
      refine ⟨rfl, p', c', ?_⟩
      have e : rowB xs = low (IntKind.wrap .u64 k) 2 ++ words (xs.take i) := by
        unfold rowB; rw [if_neg (by omega), hxs, List.take_of_length_le (by omega)]
      rw [e, List.length_append, low_length, words_length, List.length_take, Nat.min_eq_left (by omega)]
      exact S.pick [0, 1] []

end Go.Proofs.Ytdjofpdmdbcgjad.G
