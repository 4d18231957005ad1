/- Contracts: what a writer tells; the document's bytes; the laws' items. -/
import Derived.Test.YtdjofpdmdbcgjadCTapeX
namespace Go.Proofs.Ytdjofpdmdbcgjad.G
open Go Go.Sh
set_option linter.unusedVariables false

theorem Text_ok {h0 h : Heap} {T : Nat → Prop} {b : Nat} {n : Int} {r : List Value} {p : Option Addr} {l c : Nat} {bs : List UInt8} {R : List Fact} (S : Sep h0 T h [wx b n p l c r, own 1 p l c (u8s bs)] R) :
    callP P n_tape_Writer_Text #[.pointer (some ⟨b, 0, none⟩)] h fun v h' => v = .string (str bs) ∧ h' = h := by
  refine call_tape_Writer_Text _ ?_
  unfold tape_Writer_Text
  refine ifB_false rfl ?_
  (repeat (first | with_reducible refine nilI_some ?_ | ((with_reducible refine ldSlice_id ?_); refine ldSlice_i (S.cell 0 rfl rfl) ?_)))
  have o := S.own 1 rfl
  exact b2sB_i o.row (by have := o.1; rw [u8s_length] at this; omega) ⟨_, rfl, rfl, rfl⟩
theorem Text_nil {h : Heap} : callP P n_tape_Writer_Text #[.pointer none] h fun v h' => v = .string (str []) ∧ h' = h := by
  refine call_tape_Writer_Text _ ?_
  unfold tape_Writer_Text
  exact ifB_true rfl ⟨rfl, rfl⟩

theorem rBytes_ok {h : Heap} {x : Int} {n : Nat} (hx : 0 ≤ x ∧ x < 2 ^ 64) (hn : n < 2 ^ 30) : callP P n_ref06_Bytes #[.int .u64 x, .int .i64 n] h fun v h' => v = .string (str (low x n)) ∧ Fra no h h' := by
  refine call_ref06_Bytes _ _ ?_
  unfold ref06_Bytes
  have S := Sep.start h no
  refine LoopS_i (fun m s g => ∃ i : Nat, s = (x / 256 ^ i, (n : Int), str (low x i), (i : Int), ()) ∧ i ≤ n ∧ m = n - i ∧ Sep h no g [] []) n ⟨0, by simp [low]; rfl, by omega, rfl, S⟩ ?_
  rintro m s g ⟨i, rfl, hi, rfl, S⟩
  unfold ref06_Bytes_l3
  dsimp only
  refine ifB_dec (fun hlt => ?_) (fun hge => ?_)
  · refine newI_S S (fun b2 _ _ S => ?_)
    refine b2sB_i (bs := [lowByte (x / 256 ^ i)]) (Row.of_at (by have := S.at 0 rfl; rw [wrap_u8, ← lowByte_toNat] at this; exact this)) rfl ⟨_, rfl, ?_⟩
    refine addStrI_i (by rw [str_size, str_size, low_length, List.length_singleton]; omega) ?_
    rw [str_append, ← low_snoc, wrap64_in (by omega)]
    refine ⟨n - (i + 1), by omega, i + 1, ?_, by omega, rfl, S.pick [] []⟩
    have hp : (0 : Int) < 256 ^ i := Int.pow_pos (by decide)
    have h0 : 0 ≤ x / 256 ^ i := Int.ediv_nonneg hx.1 (by omega)
    have h1 : x / 256 ^ i ≤ x := Int.ediv_le_self _ hx.1
    have h2 : 0 ≤ x / 256 ^ i / 256 := Int.ediv_nonneg h0 (by decide)
    rw [Int.tdiv_eq_ediv_of_nonneg h0, wrap_u64, Int.emod_eq_of_lt h2 (by omega), div_pow_succ]
    rfl
  · have hin : i = n := by omega
    subst hin
    exact ⟨rfl, S.fra⟩

theorem wrap_u64_range (x : Int) : 0 ≤ IntKind.wrap .u64 x ∧ IntKind.wrap .u64 x < 2 ^ 64 := by
  rw [wrap_u64]; omega

end Go.Proofs.Ytdjofpdmdbcgjad.G
