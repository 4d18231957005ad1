/- The law WakeNil, over heaps. -/
import Derived.Test.YtoobckjlkopikaaCWake4
namespace Go.Proofs.Ytoobckjlkopikaa.G
open Go Go.Sh
set_option linter.unusedVariables false

theorem Push_nil {h : Heap} {p : Option Addr} {l c : Nat} : callP P n_wake_Wake_Push #[.pointer none, .slice p l c] h fun v h' => v = .slice none 0 0 ∧ h' = h := by
  refine call_wake_Wake_Push _ _ _ _ ?_
  unfold wake_Wake_Push
  exact ifB_true rfl ⟨rfl, rfl⟩

theorem WakeNil_ok {h : Heap} (s a b : Int) (c : Bool) : callP P n_law25_WakeNil #[.int .i64 s, .agg #[.int .i64 a, .int .i64 b, .bool c]] h fun v h' => v = .bool true ∧ Fra no h h' := by
  refine call_law25_WakeNil _ _ _ _ ?_
  unfold law25_WakeNil
  have S := Sep.start h no
  refine newI_S S (fun b1 _ _ S => ?_)
  refine newI_S S (fun b3 _ _ S => ?_)
  refine (Push_nil).mono ?_
  rintro _ _ ⟨rfl, rfl⟩
  refine ⟨_, _, _, rfl, ?_⟩
  refine Reset_nil.mono ?_
  rintro _ _ ⟨rfl, rfl⟩
  refine ⟨rfl, ?_⟩
  refine (awake_ok).mono ?_
  rintro _ _ ⟨rfl, F⟩
  refine ⟨_, rfl, ?_⟩
  replace S := S.fra0 F
  refine ifB_true rfl (ifB_true rfl ?_)
  refine (On_nil).mono ?_
  rintro _ _ ⟨rfl, rfl⟩
  refine ⟨_, rfl, ?_⟩
  refine ifB_true rfl ?_
  refine (Count_nil).mono ?_
  rintro _ _ ⟨rfl, F⟩
  refine ⟨_, rfl, ?_⟩
  replace S := S.fra0 F
  refine ifB_true rfl ?_
  refine (Mark_nil).mono ?_
  rintro _ _ ⟨rfl, F⟩
  refine ⟨_, _, _, rfl, ?_⟩
  replace S := S.fra0 F
  refine ifB_true rfl ?_
  (repeat (first | with_reducible refine nilI_some ?_ | ((with_reducible refine ldInt_id ?_); (first | refine ldInt_i (S.cell 0 rfl rfl) ?_ | refine ldInt_i (S.cell 1 rfl rfl) ?_ | refine ldInt_i (S.cell 2 rfl rfl) ?_ | refine ldInt_i (S.cell 3 rfl rfl) ?_ | refine ldInt_i (S.cell 4 rfl rfl) ?_ | refine ldInt_i (S.cell 5 rfl rfl) ?_ | refine ldInt_i (S.cell 6 rfl rfl) ?_ | refine ldInt_i (S.cell 7 rfl rfl) ?_ | refine ldInt_i (S.cellR 0 rfl rfl) ?_ | refine ldInt_i (S.cellR 1 rfl rfl) ?_ | refine ldInt_i (S.cellR 2 rfl rfl) ?_)) | ((with_reducible refine ldBool_id ?_); (first | refine ldBool_i (S.cell 0 rfl rfl) ?_ | refine ldBool_i (S.cell 1 rfl rfl) ?_ | refine ldBool_i (S.cell 2 rfl rfl) ?_ | refine ldBool_i (S.cell 3 rfl rfl) ?_ | refine ldBool_i (S.cell 4 rfl rfl) ?_ | refine ldBool_i (S.cell 5 rfl rfl) ?_ | refine ldBool_i (S.cell 6 rfl rfl) ?_ | refine ldBool_i (S.cell 7 rfl rfl) ?_ | refine ldBool_i (S.cellR 0 rfl rfl) ?_ | refine ldBool_i (S.cellR 1 rfl rfl) ?_ | refine ldBool_i (S.cellR 2 rfl rfl) ?_)) | ((with_reducible refine ldPtr_id ?_); (first | refine ldPtr_i (S.cell 0 rfl rfl) ?_ | refine ldPtr_i (S.cell 1 rfl rfl) ?_ | refine ldPtr_i (S.cell 2 rfl rfl) ?_ | refine ldPtr_i (S.cell 3 rfl rfl) ?_ | refine ldPtr_i (S.cell 4 rfl rfl) ?_ | refine ldPtr_i (S.cell 5 rfl rfl) ?_ | refine ldPtr_i (S.cell 6 rfl rfl) ?_ | refine ldPtr_i (S.cell 7 rfl rfl) ?_ | refine ldPtr_i (S.cellR 0 rfl rfl) ?_ | refine ldPtr_i (S.cellR 1 rfl rfl) ?_ | refine ldPtr_i (S.cellR 2 rfl rfl) ?_)) | ((with_reducible refine ldSlice_id ?_); (first | refine ldSlice_i (S.cell 0 rfl rfl) ?_ | refine ldSlice_i (S.cell 1 rfl rfl) ?_ | refine ldSlice_i (S.cell 2 rfl rfl) ?_ | refine ldSlice_i (S.cell 3 rfl rfl) ?_ | refine ldSlice_i (S.cell 4 rfl rfl) ?_ | refine ldSlice_i (S.cell 5 rfl rfl) ?_ | refine ldSlice_i (S.cell 6 rfl rfl) ?_ | refine ldSlice_i (S.cell 7 rfl rfl) ?_ | refine ldSlice_i (S.cellR 0 rfl rfl) ?_ | refine ldSlice_i (S.cellR 1 rfl rfl) ?_ | refine ldSlice_i (S.cellR 2 rfl rfl) ?_)) | ((with_reducible refine ldStr_id ?_); (first | refine ldStr_i (S.cell 0 rfl rfl) ?_ | refine ldStr_i (S.cell 1 rfl rfl) ?_ | refine ldStr_i (S.cell 2 rfl rfl) ?_ | refine ldStr_i (S.cell 3 rfl rfl) ?_ | refine ldStr_i (S.cell 4 rfl rfl) ?_ | refine ldStr_i (S.cell 5 rfl rfl) ?_ | refine ldStr_i (S.cell 6 rfl rfl) ?_ | refine ldStr_i (S.cell 7 rfl rfl) ?_ | refine ldStr_i (S.cellR 0 rfl rfl) ?_ | refine ldStr_i (S.cellR 1 rfl rfl) ?_ | refine ldStr_i (S.cellR 2 rfl rfl) ?_)) | ((with_reducible refine stI_id ?_); (first | refine stI_S S 0 rfl (Nat.le_of_ble_eq_true rfl) (fun _ _ S => ?_) | refine stI_S S 1 rfl (Nat.le_of_ble_eq_true rfl) (fun _ _ S => ?_) | refine stI_S S 2 rfl (Nat.le_of_ble_eq_true rfl) (fun _ _ S => ?_) | refine stI_S S 3 rfl (Nat.le_of_ble_eq_true rfl) (fun _ _ S => ?_) | refine stI_S S 4 rfl (Nat.le_of_ble_eq_true rfl) (fun _ _ S => ?_) | refine stI_S S 5 rfl (Nat.le_of_ble_eq_true rfl) (fun _ _ S => ?_) | refine stI_S S 6 rfl (Nat.le_of_ble_eq_true rfl) (fun _ _ S => ?_) | refine stI_S S 7 rfl (Nat.le_of_ble_eq_true rfl) (fun _ _ S => ?_)); dsimp only [List.set] at S) | ((with_reducible refine and_id ?_); (first | refine and_i (S.cell 0 rfl rfl) ?_ | refine and_i (S.cell 1 rfl rfl) ?_ | refine and_i (S.cell 2 rfl rfl) ?_ | refine and_i (S.cell 3 rfl rfl) ?_ | refine and_i (S.cell 4 rfl rfl) ?_ | refine and_i (S.cell 5 rfl rfl) ?_ | refine and_i (S.cell 6 rfl rfl) ?_ | refine and_i (S.cell 7 rfl rfl) ?_ | refine and_i (S.cellR 0 rfl rfl) ?_ | refine and_i (S.cellR 1 rfl rfl) ?_ | refine and_i (S.cellR 2 rfl rfl) ?_)) | refine arrI_i (by decide) (by decide) ?_))
  refine (Set_nil a b c).mono ?_
  rintro _ _ ⟨rfl, F⟩
  refine ⟨_, rfl, ?_⟩
  replace S := S.fra0 F
  exact ⟨rfl, S.fra⟩

end Go.Proofs.Ytoobckjlkopikaa.G
