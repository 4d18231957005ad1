/- Contracts: earshotref04.Same. -/
import Derived.Test.YtdjofpdmdbcgjacGen
import Derived.Test.YtdjofpdmdbcgjacShL
namespace Go.Proofs.Ytdjofpdmdbcgjac.G
open Go Go.Sh
set_option linter.unusedVariables false

theorem same_ok {p q : Option Addr} {l c l' c' : Nat} {h : Heap} {xs ys : List Int} (hx : Row h p (ints xs)) (hxl : xs.length = l) (hy : Row h q (ints ys)) (hyl : ys.length = l') (hb : l < 2 ^ 62) :
    callP P n_ref04_Same #[.slice p l c, .slice q l' c'] h fun v h' => v = .bool (decide (xs = ys)) ∧ h' = h := by
  refine call_ref04_Same _ _ _ _ _ _ ?_
  unfold ref04_Same
  refine ifB_i (fun e => ?_) (fun e => ?_)
  · have hne : l ≠ l' := by simp at e; omega
    exact ⟨by rw [decide_eq_false]; intro hh; subst hh; omega, rfl⟩
  · have hle : l = l' := by simp at e; omega
    refine LoopS_i (fun m s h' => h' = h ∧ ∃ i : Nat, s = ((p, l, c), (q, l', c'), (i : Int), ()) ∧ i ≤ l ∧ m = l - i ∧ xs.take i = ys.take i) l ⟨rfl, 0, rfl, by omega, by omega, rfl⟩ ?_
    rintro m s h' ⟨rfl, i, rfl, hi, rfl, ht⟩
    unfold ref04_Same_l4
    dsimp only
    refine ifB_dec (fun hlt => ?_) (fun hge => ?_)
    · have hlt : i < l := by omega
      obtain ⟨a, rfl⟩ := hx.some_of (by rw [ints_length]; omega)
      obtain ⟨b, rfl⟩ := hy.some_of (by rw [ints_length]; omega)
      refine idxI_i rfl rfl hlt (idxI_i rfl rfl (by omega) ?_)
      simp only [Int.toNat_natCast, Nat.mul_one]
      refine ldInt_i (hx.cell (ints_get (List.getElem?_eq_getElem (by omega)))) (ldInt_i (hy.cell (ints_get (List.getElem?_eq_getElem (by omega)))) ?_)
      refine ifB_i (fun e => ?_) (fun e => ?_)
      · refine ⟨?_, by trivial⟩
        rw [decide_eq_false]
        intro hh
        subst hh
        simp at e
      · rw [wrap64_in (by omega)]
        refine ⟨l - (i + 1), by omega, by trivial, i + 1, rfl, by omega, rfl, ?_⟩
        rw [List.take_succ_eq_append_getElem (by omega), List.take_succ_eq_append_getElem (by omega), ht]
        congr 2
        simpa using e
    · refine ⟨?_, by trivial⟩
      have : i = l := by omega
      rw [decide_eq_true]
      rw [List.take_of_length_le (by omega), List.take_of_length_le (by omega)] at ht
      exact ht

end Go.Proofs.Ytdjofpdmdbcgjac.G
