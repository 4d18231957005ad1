/- The law ArenaNil, over heaps. -/
import Derived.Test.YtdjofpdmdbcgjaaCArena3
import Derived.Test.YtdjofpdmdbcgjaaLArenaLays
namespace Go.Proofs.Ytdjofpdmdbcgjaa.G
open Go Go.Sh
set_option linter.unusedVariables false

theorem ArenaNil_ok {h : Heap} (n x : Int) : callP P n_law07_ArenaNil #[.int .i64 n, .int .i64 x] h fun v h' => v = .bool true ∧ Fra no h h' := by
  refine call_law07_ArenaNil _ _ ?_
  unfold law07_ArenaNil
  have S := Sep.start h no
  refine (nAPut n x).mono ?_
  rintro _ _ ⟨rfl, rfl⟩
  refine ⟨rfl, ?_⟩
  refine nZero.mono ?_
  rintro _ _ ⟨rfl, rfl⟩
  refine ⟨rfl, ?_⟩
  refine (nPPut n x).mono ?_
  rintro _ _ ⟨rfl, rfl⟩
  refine ⟨rfl, ?_⟩
  refine (awake_ok).mono ?_
  rintro _ _ ⟨rfl, F⟩
  refine ⟨_, rfl, ?_⟩
  replace S := S.fra0 F
  refine ifB_true rfl ?_
  refine (nLen).mono ?_
  rintro _ _ ⟨rfl, rfl⟩
  refine ⟨_, rfl, ?_⟩
  refine ifB_true rfl ?_
  refine (nAGet n).mono ?_
  rintro _ _ ⟨rfl, rfl⟩
  refine ⟨_, rfl, ?_⟩
  refine ifB_true rfl ?_
  refine (nWords).mono ?_
  rintro _ _ ⟨rfl, rfl⟩
  refine ⟨_, _, _, rfl, ?_⟩
  refine ifB_true rfl ?_
  refine (nSet none 0 0).mono ?_
  rintro _ _ ⟨rfl, rfl⟩
  refine ⟨_, rfl, ?_⟩
  refine ifB_true rfl ?_
  refine (nErr).mono ?_
  rintro _ _ ⟨rfl, rfl⟩
  refine ⟨_, rfl, ?_⟩
  refine ifB_true rfl ?_
  refine (nPart 0 0).mono ?_
  rintro _ _ ⟨rfl, rfl⟩
  refine ⟨_, rfl, ?_⟩
  refine ifB_true rfl ?_
  refine (nPLen).mono ?_
  rintro _ _ ⟨rfl, rfl⟩
  refine ⟨_, rfl, ?_⟩
  refine ifB_true rfl ?_
  refine (nPGet n).mono ?_
  rintro _ _ ⟨rfl, rfl⟩
  refine ⟨_, rfl, ?_⟩
  refine ifB_true rfl ?_
  refine (nPErr).mono ?_
  rintro _ _ ⟨rfl, rfl⟩
  refine ⟨_, rfl, ?_⟩
  refine ifB_true rfl ?_
  by_cases hn : n < 0 ∨ 4096 < n
  · refine (New_not n hn).mono ?_
    rintro _ _ ⟨rfl, rfl⟩
    refine ⟨_, rfl, ?_⟩
    refine ifB_dec (fun h1 => ⟨?_, S.fra⟩) (fun h1 => ⟨rfl, S.fra⟩)
    rw [decide_eq_false (show ¬ n ≤ 4096 by omega)]; rfl
  · obtain ⟨m, rfl⟩ : ∃ m : Nat, n = m := ⟨n.toNat, by omega⟩
    refine (New_S m (by omega)).mono ?_
    rintro _ _ ⟨aa, bw, rfl, S1⟩
    refine ⟨_, rfl, ?_⟩
    replace S := S.add S1 fun _ _ h => h
    refine ifB_true (decide_eq_true (by omega)) ⟨?_, S.fra⟩
    rw [decide_eq_true (show (m : Int) ≤ 4096 by omega)]; rfl

end Go.Proofs.Ytdjofpdmdbcgjaa.G
