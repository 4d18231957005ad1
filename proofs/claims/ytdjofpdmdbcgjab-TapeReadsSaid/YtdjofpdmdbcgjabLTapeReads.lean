/- The law TapeReads, over heaps. -/
import Derived.Test.YtdjofpdmdbcgjabCTape4
import Derived.Test.YtdjofpdmdbcgjabCTapeA
namespace Go.Proofs.Ytdjofpdmdbcgjab.G
open Go Go.Sh
set_option linter.unusedVariables false

theorem TapeReads_j {h0 h : Heap} {p : Option Addr} {l c : Nat} {its : List It} {s : List UInt8} (hl : its.length = l) (hl2 : l < 2 ^ 63) (hs : s.length < 2 ^ 62)
    (S : Sep h0 no h [] [row p (its.map It.cells).flatten]) : law06_TapeReads_j4 (fun v h' => v = .bool true ∧ Fra no h0 h') (str s) p l c true h := by
  unfold law06_TapeReads_j4
  refine (Read_S s).mono ?_
  rintro _ _ ⟨a, rfl, S1⟩
  refine ⟨_, rfl, ?_⟩
  replace S := S.add S1 fun _ _ h => h
  refine (dRead_S s).mono ?_
  rintro _ _ ⟨b, rfl, S1⟩
  refine ⟨_, rfl, ?_⟩
  replace S := S.add S1 fun _ _ h => h
  refine LoopS_i (fun m s' g => ∃ (i : Nat) (t : St), s' = ((p, l, c), true, some ⟨a, 0, none⟩, some ⟨b, 0, none⟩, (i : Int), ()) ∧ i ≤ l ∧ i ≤ 30 ∧ m = 30 - i ∧ t.ok s ∧
    Sep h0 no g [rd a t.at_ s t.err, rf b t.at_ s t.err] [row p (its.map It.cells).flatten]) 30 ⟨0, ⟨0, 0⟩, rfl, by omega, by omega, rfl, ⟨by simp, .inl rfl⟩, S⟩ ?_
  rintro m s' g ⟨i, t, rfl, hi, hi2, rfl, ht, S⟩
  unfold law06_TapeReads_l7
  dsimp only
  refine ⟨fun s' g' => s' = ((p, l, c), true, some ⟨a, 0, none⟩, some ⟨b, 0, none⟩, (i : Int), ()) ∧ g' = g ∧ i < l ∧ i < 30, ?_, ?_⟩
  · rintro s' g' ⟨rfl, hg, h1, h2⟩
    subst hg
    unfold law06_TapeReads_j9
    dsimp only
    refine ⟨fun s' g' => s' = ((p, l, c), true, some ⟨a, 0, none⟩, some ⟨b, 0, none⟩, (i : Int), true, ()) ∧ ∃ t : St, t.ok s ∧ Sep h0 no g' [rd a t.at_ s t.err, rf b t.at_ s t.err] [row p (its.map It.cells).flatten], ?_, ?_⟩
    · rintro s' g' ⟨rfl, t, ht, S⟩
      unfold law06_TapeReads_j20
      dsimp only
      refine ifB_false rfl ?_
      (repeat (first | with_reducible refine nilI_some ?_ | ((with_reducible refine ldInt_id ?_); (first | refine ldInt_i (S.cell 0 rfl rfl) ?_ | refine ldInt_i (S.cell 1 rfl rfl) ?_ | refine ldInt_i (S.cell 2 rfl rfl) ?_ | refine ldInt_i (S.cell 3 rfl rfl) ?_ | refine ldInt_i (S.cell 4 rfl rfl) ?_ | refine ldInt_i (S.cell 5 rfl rfl) ?_ | refine ldInt_i (S.cell 6 rfl rfl) ?_ | refine ldInt_i (S.cell 7 rfl rfl) ?_ | refine ldInt_i (S.cellR 0 rfl rfl) ?_ | refine ldInt_i (S.cellR 1 rfl rfl) ?_ | refine ldInt_i (S.cellR 2 rfl rfl) ?_)) | ((with_reducible refine ldBool_id ?_); (first | refine ldBool_i (S.cell 0 rfl rfl) ?_ | refine ldBool_i (S.cell 1 rfl rfl) ?_ | refine ldBool_i (S.cell 2 rfl rfl) ?_ | refine ldBool_i (S.cell 3 rfl rfl) ?_ | refine ldBool_i (S.cell 4 rfl rfl) ?_ | refine ldBool_i (S.cell 5 rfl rfl) ?_ | refine ldBool_i (S.cell 6 rfl rfl) ?_ | refine ldBool_i (S.cell 7 rfl rfl) ?_ | refine ldBool_i (S.cellR 0 rfl rfl) ?_ | refine ldBool_i (S.cellR 1 rfl rfl) ?_ | refine ldBool_i (S.cellR 2 rfl rfl) ?_)) | ((with_reducible refine ldPtr_id ?_); (first | refine ldPtr_i (S.cell 0 rfl rfl) ?_ | refine ldPtr_i (S.cell 1 rfl rfl) ?_ | refine ldPtr_i (S.cell 2 rfl rfl) ?_ | refine ldPtr_i (S.cell 3 rfl rfl) ?_ | refine ldPtr_i (S.cell 4 rfl rfl) ?_ | refine ldPtr_i (S.cell 5 rfl rfl) ?_ | refine ldPtr_i (S.cell 6 rfl rfl) ?_ | refine ldPtr_i (S.cell 7 rfl rfl) ?_ | refine ldPtr_i (S.cellR 0 rfl rfl) ?_ | refine ldPtr_i (S.cellR 1 rfl rfl) ?_ | refine ldPtr_i (S.cellR 2 rfl rfl) ?_)) | ((with_reducible refine ldSlice_id ?_); (first | refine ldSlice_i (S.cell 0 rfl rfl) ?_ | refine ldSlice_i (S.cell 1 rfl rfl) ?_ | refine ldSlice_i (S.cell 2 rfl rfl) ?_ | refine ldSlice_i (S.cell 3 rfl rfl) ?_ | refine ldSlice_i (S.cell 4 rfl rfl) ?_ | refine ldSlice_i (S.cell 5 rfl rfl) ?_ | refine ldSlice_i (S.cell 6 rfl rfl) ?_ | refine ldSlice_i (S.cell 7 rfl rfl) ?_ | refine ldSlice_i (S.cellR 0 rfl rfl) ?_ | refine ldSlice_i (S.cellR 1 rfl rfl) ?_ | refine ldSlice_i (S.cellR 2 rfl rfl) ?_)) | ((with_reducible refine ldStr_id ?_); (first | refine ldStr_i (S.cell 0 rfl rfl) ?_ | refine ldStr_i (S.cell 1 rfl rfl) ?_ | refine ldStr_i (S.cell 2 rfl rfl) ?_ | refine ldStr_i (S.cell 3 rfl rfl) ?_ | refine ldStr_i (S.cell 4 rfl rfl) ?_ | refine ldStr_i (S.cell 5 rfl rfl) ?_ | refine ldStr_i (S.cell 6 rfl rfl) ?_ | refine ldStr_i (S.cell 7 rfl rfl) ?_ | refine ldStr_i (S.cellR 0 rfl rfl) ?_ | refine ldStr_i (S.cellR 1 rfl rfl) ?_ | refine ldStr_i (S.cellR 2 rfl rfl) ?_)) | ((with_reducible refine stI_id ?_); (first | refine stI_S S 0 rfl (Nat.le_of_ble_eq_true rfl) (fun _ _ S => ?_) | refine stI_S S 1 rfl (Nat.le_of_ble_eq_true rfl) (fun _ _ S => ?_) | refine stI_S S 2 rfl (Nat.le_of_ble_eq_true rfl) (fun _ _ S => ?_) | refine stI_S S 3 rfl (Nat.le_of_ble_eq_true rfl) (fun _ _ S => ?_) | refine stI_S S 4 rfl (Nat.le_of_ble_eq_true rfl) (fun _ _ S => ?_) | refine stI_S S 5 rfl (Nat.le_of_ble_eq_true rfl) (fun _ _ S => ?_) | refine stI_S S 6 rfl (Nat.le_of_ble_eq_true rfl) (fun _ _ S => ?_) | refine stI_S S 7 rfl (Nat.le_of_ble_eq_true rfl) (fun _ _ S => ?_)); try dsimp only [List.set, List.cons_append, List.nil_append] at S) | ((with_reducible refine and_id ?_); (first | refine and_i (S.cell 0 rfl rfl) ?_ | refine and_i (S.cell 1 rfl rfl) ?_ | refine and_i (S.cell 2 rfl rfl) ?_ | refine and_i (S.cell 3 rfl rfl) ?_ | refine and_i (S.cell 4 rfl rfl) ?_ | refine and_i (S.cell 5 rfl rfl) ?_ | refine and_i (S.cell 6 rfl rfl) ?_ | refine and_i (S.cell 7 rfl rfl) ?_ | refine and_i (S.cellR 0 rfl rfl) ?_ | refine and_i (S.cellR 1 rfl rfl) ?_ | refine and_i (S.cellR 2 rfl rfl) ?_)) | refine arrI_i (by decide) (by decide) ?_))
      refine (rAt_ok (S.cell 0 rfl rfl)).mono ?_
      rintro _ _ ⟨rfl, rfl⟩
      refine ⟨_, rfl, ?_⟩
      (repeat (first | with_reducible refine nilI_some ?_ | ((with_reducible refine ldInt_id ?_); (first | refine ldInt_i (S.cell 0 rfl rfl) ?_ | refine ldInt_i (S.cell 1 rfl rfl) ?_ | refine ldInt_i (S.cell 2 rfl rfl) ?_ | refine ldInt_i (S.cell 3 rfl rfl) ?_ | refine ldInt_i (S.cell 4 rfl rfl) ?_ | refine ldInt_i (S.cell 5 rfl rfl) ?_ | refine ldInt_i (S.cell 6 rfl rfl) ?_ | refine ldInt_i (S.cell 7 rfl rfl) ?_ | refine ldInt_i (S.cellR 0 rfl rfl) ?_ | refine ldInt_i (S.cellR 1 rfl rfl) ?_ | refine ldInt_i (S.cellR 2 rfl rfl) ?_)) | ((with_reducible refine ldBool_id ?_); (first | refine ldBool_i (S.cell 0 rfl rfl) ?_ | refine ldBool_i (S.cell 1 rfl rfl) ?_ | refine ldBool_i (S.cell 2 rfl rfl) ?_ | refine ldBool_i (S.cell 3 rfl rfl) ?_ | refine ldBool_i (S.cell 4 rfl rfl) ?_ | refine ldBool_i (S.cell 5 rfl rfl) ?_ | refine ldBool_i (S.cell 6 rfl rfl) ?_ | refine ldBool_i (S.cell 7 rfl rfl) ?_ | refine ldBool_i (S.cellR 0 rfl rfl) ?_ | refine ldBool_i (S.cellR 1 rfl rfl) ?_ | refine ldBool_i (S.cellR 2 rfl rfl) ?_)) | ((with_reducible refine ldPtr_id ?_); (first | refine ldPtr_i (S.cell 0 rfl rfl) ?_ | refine ldPtr_i (S.cell 1 rfl rfl) ?_ | refine ldPtr_i (S.cell 2 rfl rfl) ?_ | refine ldPtr_i (S.cell 3 rfl rfl) ?_ | refine ldPtr_i (S.cell 4 rfl rfl) ?_ | refine ldPtr_i (S.cell 5 rfl rfl) ?_ | refine ldPtr_i (S.cell 6 rfl rfl) ?_ | refine ldPtr_i (S.cell 7 rfl rfl) ?_ | refine ldPtr_i (S.cellR 0 rfl rfl) ?_ | refine ldPtr_i (S.cellR 1 rfl rfl) ?_ | refine ldPtr_i (S.cellR 2 rfl rfl) ?_)) | ((with_reducible refine ldSlice_id ?_); (first | refine ldSlice_i (S.cell 0 rfl rfl) ?_ | refine ldSlice_i (S.cell 1 rfl rfl) ?_ | refine ldSlice_i (S.cell 2 rfl rfl) ?_ | refine ldSlice_i (S.cell 3 rfl rfl) ?_ | refine ldSlice_i (S.cell 4 rfl rfl) ?_ | refine ldSlice_i (S.cell 5 rfl rfl) ?_ | refine ldSlice_i (S.cell 6 rfl rfl) ?_ | refine ldSlice_i (S.cell 7 rfl rfl) ?_ | refine ldSlice_i (S.cellR 0 rfl rfl) ?_ | refine ldSlice_i (S.cellR 1 rfl rfl) ?_ | refine ldSlice_i (S.cellR 2 rfl rfl) ?_)) | ((with_reducible refine ldStr_id ?_); (first | refine ldStr_i (S.cell 0 rfl rfl) ?_ | refine ldStr_i (S.cell 1 rfl rfl) ?_ | refine ldStr_i (S.cell 2 rfl rfl) ?_ | refine ldStr_i (S.cell 3 rfl rfl) ?_ | refine ldStr_i (S.cell 4 rfl rfl) ?_ | refine ldStr_i (S.cell 5 rfl rfl) ?_ | refine ldStr_i (S.cell 6 rfl rfl) ?_ | refine ldStr_i (S.cell 7 rfl rfl) ?_ | refine ldStr_i (S.cellR 0 rfl rfl) ?_ | refine ldStr_i (S.cellR 1 rfl rfl) ?_ | refine ldStr_i (S.cellR 2 rfl rfl) ?_)) | ((with_reducible refine stI_id ?_); (first | refine stI_S S 0 rfl (Nat.le_of_ble_eq_true rfl) (fun _ _ S => ?_) | refine stI_S S 1 rfl (Nat.le_of_ble_eq_true rfl) (fun _ _ S => ?_) | refine stI_S S 2 rfl (Nat.le_of_ble_eq_true rfl) (fun _ _ S => ?_) | refine stI_S S 3 rfl (Nat.le_of_ble_eq_true rfl) (fun _ _ S => ?_) | refine stI_S S 4 rfl (Nat.le_of_ble_eq_true rfl) (fun _ _ S => ?_) | refine stI_S S 5 rfl (Nat.le_of_ble_eq_true rfl) (fun _ _ S => ?_) | refine stI_S S 6 rfl (Nat.le_of_ble_eq_true rfl) (fun _ _ S => ?_) | refine stI_S S 7 rfl (Nat.le_of_ble_eq_true rfl) (fun _ _ S => ?_)); try dsimp only [List.set, List.cons_append, List.nil_append] at S) | ((with_reducible refine and_id ?_); (first | refine and_i (S.cell 0 rfl rfl) ?_ | refine and_i (S.cell 1 rfl rfl) ?_ | refine and_i (S.cell 2 rfl rfl) ?_ | refine and_i (S.cell 3 rfl rfl) ?_ | refine and_i (S.cell 4 rfl rfl) ?_ | refine and_i (S.cell 5 rfl rfl) ?_ | refine and_i (S.cell 6 rfl rfl) ?_ | refine and_i (S.cell 7 rfl rfl) ?_ | refine and_i (S.cellR 0 rfl rfl) ?_ | refine and_i (S.cellR 1 rfl rfl) ?_ | refine and_i (S.cellR 2 rfl rfl) ?_)) | refine arrI_i (by decide) (by decide) ?_))
      refine ifB_false (by simp) ?_
      refine (rLeft_ok (S.at 0 rfl) ht hs).mono ?_
      rintro _ _ ⟨rfl, rfl⟩
      refine ⟨_, rfl, ?_⟩
      (repeat (first | with_reducible refine nilI_some ?_ | ((with_reducible refine ldInt_id ?_); (first | refine ldInt_i (S.cell 0 rfl rfl) ?_ | refine ldInt_i (S.cell 1 rfl rfl) ?_ | refine ldInt_i (S.cell 2 rfl rfl) ?_ | refine ldInt_i (S.cell 3 rfl rfl) ?_ | refine ldInt_i (S.cell 4 rfl rfl) ?_ | refine ldInt_i (S.cell 5 rfl rfl) ?_ | refine ldInt_i (S.cell 6 rfl rfl) ?_ | refine ldInt_i (S.cell 7 rfl rfl) ?_ | refine ldInt_i (S.cellR 0 rfl rfl) ?_ | refine ldInt_i (S.cellR 1 rfl rfl) ?_ | refine ldInt_i (S.cellR 2 rfl rfl) ?_)) | ((with_reducible refine ldBool_id ?_); (first | refine ldBool_i (S.cell 0 rfl rfl) ?_ | refine ldBool_i (S.cell 1 rfl rfl) ?_ | refine ldBool_i (S.cell 2 rfl rfl) ?_ | refine ldBool_i (S.cell 3 rfl rfl) ?_ | refine ldBool_i (S.cell 4 rfl rfl) ?_ | refine ldBool_i (S.cell 5 rfl rfl) ?_ | refine ldBool_i (S.cell 6 rfl rfl) ?_ | refine ldBool_i (S.cell 7 rfl rfl) ?_ | refine ldBool_i (S.cellR 0 rfl rfl) ?_ | refine ldBool_i (S.cellR 1 rfl rfl) ?_ | refine ldBool_i (S.cellR 2 rfl rfl) ?_)) | ((with_reducible refine ldPtr_id ?_); (first | refine ldPtr_i (S.cell 0 rfl rfl) ?_ | refine ldPtr_i (S.cell 1 rfl rfl) ?_ | refine ldPtr_i (S.cell 2 rfl rfl) ?_ | refine ldPtr_i (S.cell 3 rfl rfl) ?_ | refine ldPtr_i (S.cell 4 rfl rfl) ?_ | refine ldPtr_i (S.cell 5 rfl rfl) ?_ | refine ldPtr_i (S.cell 6 rfl rfl) ?_ | refine ldPtr_i (S.cell 7 rfl rfl) ?_ | refine ldPtr_i (S.cellR 0 rfl rfl) ?_ | refine ldPtr_i (S.cellR 1 rfl rfl) ?_ | refine ldPtr_i (S.cellR 2 rfl rfl) ?_)) | ((with_reducible refine ldSlice_id ?_); (first | refine ldSlice_i (S.cell 0 rfl rfl) ?_ | refine ldSlice_i (S.cell 1 rfl rfl) ?_ | refine ldSlice_i (S.cell 2 rfl rfl) ?_ | refine ldSlice_i (S.cell 3 rfl rfl) ?_ | refine ldSlice_i (S.cell 4 rfl rfl) ?_ | refine ldSlice_i (S.cell 5 rfl rfl) ?_ | refine ldSlice_i (S.cell 6 rfl rfl) ?_ | refine ldSlice_i (S.cell 7 rfl rfl) ?_ | refine ldSlice_i (S.cellR 0 rfl rfl) ?_ | refine ldSlice_i (S.cellR 1 rfl rfl) ?_ | refine ldSlice_i (S.cellR 2 rfl rfl) ?_)) | ((with_reducible refine ldStr_id ?_); (first | refine ldStr_i (S.cell 0 rfl rfl) ?_ | refine ldStr_i (S.cell 1 rfl rfl) ?_ | refine ldStr_i (S.cell 2 rfl rfl) ?_ | refine ldStr_i (S.cell 3 rfl rfl) ?_ | refine ldStr_i (S.cell 4 rfl rfl) ?_ | refine ldStr_i (S.cell 5 rfl rfl) ?_ | refine ldStr_i (S.cell 6 rfl rfl) ?_ | refine ldStr_i (S.cell 7 rfl rfl) ?_ | refine ldStr_i (S.cellR 0 rfl rfl) ?_ | refine ldStr_i (S.cellR 1 rfl rfl) ?_ | refine ldStr_i (S.cellR 2 rfl rfl) ?_)) | ((with_reducible refine stI_id ?_); (first | refine stI_S S 0 rfl (Nat.le_of_ble_eq_true rfl) (fun _ _ S => ?_) | refine stI_S S 1 rfl (Nat.le_of_ble_eq_true rfl) (fun _ _ S => ?_) | refine stI_S S 2 rfl (Nat.le_of_ble_eq_true rfl) (fun _ _ S => ?_) | refine stI_S S 3 rfl (Nat.le_of_ble_eq_true rfl) (fun _ _ S => ?_) | refine stI_S S 4 rfl (Nat.le_of_ble_eq_true rfl) (fun _ _ S => ?_) | refine stI_S S 5 rfl (Nat.le_of_ble_eq_true rfl) (fun _ _ S => ?_) | refine stI_S S 6 rfl (Nat.le_of_ble_eq_true rfl) (fun _ _ S => ?_) | refine stI_S S 7 rfl (Nat.le_of_ble_eq_true rfl) (fun _ _ S => ?_)); try dsimp only [List.set, List.cons_append, List.nil_append] at S) | ((with_reducible refine and_id ?_); (first | refine and_i (S.cell 0 rfl rfl) ?_ | refine and_i (S.cell 1 rfl rfl) ?_ | refine and_i (S.cell 2 rfl rfl) ?_ | refine and_i (S.cell 3 rfl rfl) ?_ | refine and_i (S.cell 4 rfl rfl) ?_ | refine and_i (S.cell 5 rfl rfl) ?_ | refine and_i (S.cell 6 rfl rfl) ?_ | refine and_i (S.cell 7 rfl rfl) ?_ | refine and_i (S.cellR 0 rfl rfl) ?_ | refine and_i (S.cellR 1 rfl rfl) ?_ | refine and_i (S.cellR 2 rfl rfl) ?_)) | refine arrI_i (by decide) (by decide) ?_))
      refine (dLeft_ok (S.at 1 rfl) ht hs).mono ?_
      rintro _ _ ⟨rfl, rfl⟩
      refine ⟨_, rfl, ?_⟩
      (repeat (first | with_reducible refine nilI_some ?_ | ((with_reducible refine ldInt_id ?_); (first | refine ldInt_i (S.cell 0 rfl rfl) ?_ | refine ldInt_i (S.cell 1 rfl rfl) ?_ | refine ldInt_i (S.cell 2 rfl rfl) ?_ | refine ldInt_i (S.cell 3 rfl rfl) ?_ | refine ldInt_i (S.cell 4 rfl rfl) ?_ | refine ldInt_i (S.cell 5 rfl rfl) ?_ | refine ldInt_i (S.cell 6 rfl rfl) ?_ | refine ldInt_i (S.cell 7 rfl rfl) ?_ | refine ldInt_i (S.cellR 0 rfl rfl) ?_ | refine ldInt_i (S.cellR 1 rfl rfl) ?_ | refine ldInt_i (S.cellR 2 rfl rfl) ?_)) | ((with_reducible refine ldBool_id ?_); (first | refine ldBool_i (S.cell 0 rfl rfl) ?_ | refine ldBool_i (S.cell 1 rfl rfl) ?_ | refine ldBool_i (S.cell 2 rfl rfl) ?_ | refine ldBool_i (S.cell 3 rfl rfl) ?_ | refine ldBool_i (S.cell 4 rfl rfl) ?_ | refine ldBool_i (S.cell 5 rfl rfl) ?_ | refine ldBool_i (S.cell 6 rfl rfl) ?_ | refine ldBool_i (S.cell 7 rfl rfl) ?_ | refine ldBool_i (S.cellR 0 rfl rfl) ?_ | refine ldBool_i (S.cellR 1 rfl rfl) ?_ | refine ldBool_i (S.cellR 2 rfl rfl) ?_)) | ((with_reducible refine ldPtr_id ?_); (first | refine ldPtr_i (S.cell 0 rfl rfl) ?_ | refine ldPtr_i (S.cell 1 rfl rfl) ?_ | refine ldPtr_i (S.cell 2 rfl rfl) ?_ | refine ldPtr_i (S.cell 3 rfl rfl) ?_ | refine ldPtr_i (S.cell 4 rfl rfl) ?_ | refine ldPtr_i (S.cell 5 rfl rfl) ?_ | refine ldPtr_i (S.cell 6 rfl rfl) ?_ | refine ldPtr_i (S.cell 7 rfl rfl) ?_ | refine ldPtr_i (S.cellR 0 rfl rfl) ?_ | refine ldPtr_i (S.cellR 1 rfl rfl) ?_ | refine ldPtr_i (S.cellR 2 rfl rfl) ?_)) | ((with_reducible refine ldSlice_id ?_); (first | refine ldSlice_i (S.cell 0 rfl rfl) ?_ | refine ldSlice_i (S.cell 1 rfl rfl) ?_ | refine ldSlice_i (S.cell 2 rfl rfl) ?_ | refine ldSlice_i (S.cell 3 rfl rfl) ?_ | refine ldSlice_i (S.cell 4 rfl rfl) ?_ | refine ldSlice_i (S.cell 5 rfl rfl) ?_ | refine ldSlice_i (S.cell 6 rfl rfl) ?_ | refine ldSlice_i (S.cell 7 rfl rfl) ?_ | refine ldSlice_i (S.cellR 0 rfl rfl) ?_ | refine ldSlice_i (S.cellR 1 rfl rfl) ?_ | refine ldSlice_i (S.cellR 2 rfl rfl) ?_)) | ((with_reducible refine ldStr_id ?_); (first | refine ldStr_i (S.cell 0 rfl rfl) ?_ | refine ldStr_i (S.cell 1 rfl rfl) ?_ | refine ldStr_i (S.cell 2 rfl rfl) ?_ | refine ldStr_i (S.cell 3 rfl rfl) ?_ | refine ldStr_i (S.cell 4 rfl rfl) ?_ | refine ldStr_i (S.cell 5 rfl rfl) ?_ | refine ldStr_i (S.cell 6 rfl rfl) ?_ | refine ldStr_i (S.cell 7 rfl rfl) ?_ | refine ldStr_i (S.cellR 0 rfl rfl) ?_ | refine ldStr_i (S.cellR 1 rfl rfl) ?_ | refine ldStr_i (S.cellR 2 rfl rfl) ?_)) | ((with_reducible refine stI_id ?_); (first | refine stI_S S 0 rfl (Nat.le_of_ble_eq_true rfl) (fun _ _ S => ?_) | refine stI_S S 1 rfl (Nat.le_of_ble_eq_true rfl) (fun _ _ S => ?_) | refine stI_S S 2 rfl (Nat.le_of_ble_eq_true rfl) (fun _ _ S => ?_) | refine stI_S S 3 rfl (Nat.le_of_ble_eq_true rfl) (fun _ _ S => ?_) | refine stI_S S 4 rfl (Nat.le_of_ble_eq_true rfl) (fun _ _ S => ?_) | refine stI_S S 5 rfl (Nat.le_of_ble_eq_true rfl) (fun _ _ S => ?_) | refine stI_S S 6 rfl (Nat.le_of_ble_eq_true rfl) (fun _ _ S => ?_) | refine stI_S S 7 rfl (Nat.le_of_ble_eq_true rfl) (fun _ _ S => ?_)); try dsimp only [List.set, List.cons_append, List.nil_append] at S) | ((with_reducible refine and_id ?_); (first | refine and_i (S.cell 0 rfl rfl) ?_ | refine and_i (S.cell 1 rfl rfl) ?_ | refine and_i (S.cell 2 rfl rfl) ?_ | refine and_i (S.cell 3 rfl rfl) ?_ | refine and_i (S.cell 4 rfl rfl) ?_ | refine and_i (S.cell 5 rfl rfl) ?_ | refine and_i (S.cell 6 rfl rfl) ?_ | refine and_i (S.cell 7 rfl rfl) ?_ | refine and_i (S.cellR 0 rfl rfl) ?_ | refine and_i (S.cellR 1 rfl rfl) ?_ | refine and_i (S.cellR 2 rfl rfl) ?_)) | refine arrI_i (by decide) (by decide) ?_))
      refine ifB_false (by simp) ?_
      (repeat (first | with_reducible refine nilI_some ?_ | ((with_reducible refine ldInt_id ?_); (first | refine ldInt_i (S.cell 0 rfl rfl) ?_ | refine ldInt_i (S.cell 1 rfl rfl) ?_ | refine ldInt_i (S.cell 2 rfl rfl) ?_ | refine ldInt_i (S.cell 3 rfl rfl) ?_ | refine ldInt_i (S.cell 4 rfl rfl) ?_ | refine ldInt_i (S.cell 5 rfl rfl) ?_ | refine ldInt_i (S.cell 6 rfl rfl) ?_ | refine ldInt_i (S.cell 7 rfl rfl) ?_ | refine ldInt_i (S.cellR 0 rfl rfl) ?_ | refine ldInt_i (S.cellR 1 rfl rfl) ?_ | refine ldInt_i (S.cellR 2 rfl rfl) ?_)) | ((with_reducible refine ldBool_id ?_); (first | refine ldBool_i (S.cell 0 rfl rfl) ?_ | refine ldBool_i (S.cell 1 rfl rfl) ?_ | refine ldBool_i (S.cell 2 rfl rfl) ?_ | refine ldBool_i (S.cell 3 rfl rfl) ?_ | refine ldBool_i (S.cell 4 rfl rfl) ?_ | refine ldBool_i (S.cell 5 rfl rfl) ?_ | refine ldBool_i (S.cell 6 rfl rfl) ?_ | refine ldBool_i (S.cell 7 rfl rfl) ?_ | refine ldBool_i (S.cellR 0 rfl rfl) ?_ | refine ldBool_i (S.cellR 1 rfl rfl) ?_ | refine ldBool_i (S.cellR 2 rfl rfl) ?_)) | ((with_reducible refine ldPtr_id ?_); (first | refine ldPtr_i (S.cell 0 rfl rfl) ?_ | refine ldPtr_i (S.cell 1 rfl rfl) ?_ | refine ldPtr_i (S.cell 2 rfl rfl) ?_ | refine ldPtr_i (S.cell 3 rfl rfl) ?_ | refine ldPtr_i (S.cell 4 rfl rfl) ?_ | refine ldPtr_i (S.cell 5 rfl rfl) ?_ | refine ldPtr_i (S.cell 6 rfl rfl) ?_ | refine ldPtr_i (S.cell 7 rfl rfl) ?_ | refine ldPtr_i (S.cellR 0 rfl rfl) ?_ | refine ldPtr_i (S.cellR 1 rfl rfl) ?_ | refine ldPtr_i (S.cellR 2 rfl rfl) ?_)) | ((with_reducible refine ldSlice_id ?_); (first | refine ldSlice_i (S.cell 0 rfl rfl) ?_ | refine ldSlice_i (S.cell 1 rfl rfl) ?_ | refine ldSlice_i (S.cell 2 rfl rfl) ?_ | refine ldSlice_i (S.cell 3 rfl rfl) ?_ | refine ldSlice_i (S.cell 4 rfl rfl) ?_ | refine ldSlice_i (S.cell 5 rfl rfl) ?_ | refine ldSlice_i (S.cell 6 rfl rfl) ?_ | refine ldSlice_i (S.cell 7 rfl rfl) ?_ | refine ldSlice_i (S.cellR 0 rfl rfl) ?_ | refine ldSlice_i (S.cellR 1 rfl rfl) ?_ | refine ldSlice_i (S.cellR 2 rfl rfl) ?_)) | ((with_reducible refine ldStr_id ?_); (first | refine ldStr_i (S.cell 0 rfl rfl) ?_ | refine ldStr_i (S.cell 1 rfl rfl) ?_ | refine ldStr_i (S.cell 2 rfl rfl) ?_ | refine ldStr_i (S.cell 3 rfl rfl) ?_ | refine ldStr_i (S.cell 4 rfl rfl) ?_ | refine ldStr_i (S.cell 5 rfl rfl) ?_ | refine ldStr_i (S.cell 6 rfl rfl) ?_ | refine ldStr_i (S.cell 7 rfl rfl) ?_ | refine ldStr_i (S.cellR 0 rfl rfl) ?_ | refine ldStr_i (S.cellR 1 rfl rfl) ?_ | refine ldStr_i (S.cellR 2 rfl rfl) ?_)) | ((with_reducible refine stI_id ?_); (first | refine stI_S S 0 rfl (Nat.le_of_ble_eq_true rfl) (fun _ _ S => ?_) | refine stI_S S 1 rfl (Nat.le_of_ble_eq_true rfl) (fun _ _ S => ?_) | refine stI_S S 2 rfl (Nat.le_of_ble_eq_true rfl) (fun _ _ S => ?_) | refine stI_S S 3 rfl (Nat.le_of_ble_eq_true rfl) (fun _ _ S => ?_) | refine stI_S S 4 rfl (Nat.le_of_ble_eq_true rfl) (fun _ _ S => ?_) | refine stI_S S 5 rfl (Nat.le_of_ble_eq_true rfl) (fun _ _ S => ?_) | refine stI_S S 6 rfl (Nat.le_of_ble_eq_true rfl) (fun _ _ S => ?_) | refine stI_S S 7 rfl (Nat.le_of_ble_eq_true rfl) (fun _ _ S => ?_)); try dsimp only [List.set, List.cons_append, List.nil_append] at S) | ((with_reducible refine and_id ?_); (first | refine and_i (S.cell 0 rfl rfl) ?_ | refine and_i (S.cell 1 rfl rfl) ?_ | refine and_i (S.cell 2 rfl rfl) ?_ | refine and_i (S.cell 3 rfl rfl) ?_ | refine and_i (S.cell 4 rfl rfl) ?_ | refine and_i (S.cell 5 rfl rfl) ?_ | refine and_i (S.cell 6 rfl rfl) ?_ | refine and_i (S.cell 7 rfl rfl) ?_ | refine and_i (S.cellR 0 rfl rfl) ?_ | refine and_i (S.cellR 1 rfl rfl) ?_ | refine and_i (S.cellR 2 rfl rfl) ?_)) | refine arrI_i (by decide) (by decide) ?_))
      refine (rErr_ok (S.cell 0 rfl rfl)).mono ?_
      rintro _ _ ⟨rfl, rfl⟩
      refine ⟨_, rfl, ?_⟩
      (repeat (first | with_reducible refine nilI_some ?_ | ((with_reducible refine ldInt_id ?_); (first | refine ldInt_i (S.cell 0 rfl rfl) ?_ | refine ldInt_i (S.cell 1 rfl rfl) ?_ | refine ldInt_i (S.cell 2 rfl rfl) ?_ | refine ldInt_i (S.cell 3 rfl rfl) ?_ | refine ldInt_i (S.cell 4 rfl rfl) ?_ | refine ldInt_i (S.cell 5 rfl rfl) ?_ | refine ldInt_i (S.cell 6 rfl rfl) ?_ | refine ldInt_i (S.cell 7 rfl rfl) ?_ | refine ldInt_i (S.cellR 0 rfl rfl) ?_ | refine ldInt_i (S.cellR 1 rfl rfl) ?_ | refine ldInt_i (S.cellR 2 rfl rfl) ?_)) | ((with_reducible refine ldBool_id ?_); (first | refine ldBool_i (S.cell 0 rfl rfl) ?_ | refine ldBool_i (S.cell 1 rfl rfl) ?_ | refine ldBool_i (S.cell 2 rfl rfl) ?_ | refine ldBool_i (S.cell 3 rfl rfl) ?_ | refine ldBool_i (S.cell 4 rfl rfl) ?_ | refine ldBool_i (S.cell 5 rfl rfl) ?_ | refine ldBool_i (S.cell 6 rfl rfl) ?_ | refine ldBool_i (S.cell 7 rfl rfl) ?_ | refine ldBool_i (S.cellR 0 rfl rfl) ?_ | refine ldBool_i (S.cellR 1 rfl rfl) ?_ | refine ldBool_i (S.cellR 2 rfl rfl) ?_)) | ((with_reducible refine ldPtr_id ?_); (first | refine ldPtr_i (S.cell 0 rfl rfl) ?_ | refine ldPtr_i (S.cell 1 rfl rfl) ?_ | refine ldPtr_i (S.cell 2 rfl rfl) ?_ | refine ldPtr_i (S.cell 3 rfl rfl) ?_ | refine ldPtr_i (S.cell 4 rfl rfl) ?_ | refine ldPtr_i (S.cell 5 rfl rfl) ?_ | refine ldPtr_i (S.cell 6 rfl rfl) ?_ | refine ldPtr_i (S.cell 7 rfl rfl) ?_ | refine ldPtr_i (S.cellR 0 rfl rfl) ?_ | refine ldPtr_i (S.cellR 1 rfl rfl) ?_ | refine ldPtr_i (S.cellR 2 rfl rfl) ?_)) | ((with_reducible refine ldSlice_id ?_); (first | refine ldSlice_i (S.cell 0 rfl rfl) ?_ | refine ldSlice_i (S.cell 1 rfl rfl) ?_ | refine ldSlice_i (S.cell 2 rfl rfl) ?_ | refine ldSlice_i (S.cell 3 rfl rfl) ?_ | refine ldSlice_i (S.cell 4 rfl rfl) ?_ | refine ldSlice_i (S.cell 5 rfl rfl) ?_ | refine ldSlice_i (S.cell 6 rfl rfl) ?_ | refine ldSlice_i (S.cell 7 rfl rfl) ?_ | refine ldSlice_i (S.cellR 0 rfl rfl) ?_ | refine ldSlice_i (S.cellR 1 rfl rfl) ?_ | refine ldSlice_i (S.cellR 2 rfl rfl) ?_)) | ((with_reducible refine ldStr_id ?_); (first | refine ldStr_i (S.cell 0 rfl rfl) ?_ | refine ldStr_i (S.cell 1 rfl rfl) ?_ | refine ldStr_i (S.cell 2 rfl rfl) ?_ | refine ldStr_i (S.cell 3 rfl rfl) ?_ | refine ldStr_i (S.cell 4 rfl rfl) ?_ | refine ldStr_i (S.cell 5 rfl rfl) ?_ | refine ldStr_i (S.cell 6 rfl rfl) ?_ | refine ldStr_i (S.cell 7 rfl rfl) ?_ | refine ldStr_i (S.cellR 0 rfl rfl) ?_ | refine ldStr_i (S.cellR 1 rfl rfl) ?_ | refine ldStr_i (S.cellR 2 rfl rfl) ?_)) | ((with_reducible refine stI_id ?_); (first | refine stI_S S 0 rfl (Nat.le_of_ble_eq_true rfl) (fun _ _ S => ?_) | refine stI_S S 1 rfl (Nat.le_of_ble_eq_true rfl) (fun _ _ S => ?_) | refine stI_S S 2 rfl (Nat.le_of_ble_eq_true rfl) (fun _ _ S => ?_) | refine stI_S S 3 rfl (Nat.le_of_ble_eq_true rfl) (fun _ _ S => ?_) | refine stI_S S 4 rfl (Nat.le_of_ble_eq_true rfl) (fun _ _ S => ?_) | refine stI_S S 5 rfl (Nat.le_of_ble_eq_true rfl) (fun _ _ S => ?_) | refine stI_S S 6 rfl (Nat.le_of_ble_eq_true rfl) (fun _ _ S => ?_) | refine stI_S S 7 rfl (Nat.le_of_ble_eq_true rfl) (fun _ _ S => ?_)); try dsimp only [List.set, List.cons_append, List.nil_append] at S) | ((with_reducible refine and_id ?_); (first | refine and_i (S.cell 0 rfl rfl) ?_ | refine and_i (S.cell 1 rfl rfl) ?_ | refine and_i (S.cell 2 rfl rfl) ?_ | refine and_i (S.cell 3 rfl rfl) ?_ | refine and_i (S.cell 4 rfl rfl) ?_ | refine and_i (S.cell 5 rfl rfl) ?_ | refine and_i (S.cell 6 rfl rfl) ?_ | refine and_i (S.cell 7 rfl rfl) ?_ | refine and_i (S.cellR 0 rfl rfl) ?_ | refine and_i (S.cellR 1 rfl rfl) ?_ | refine and_i (S.cellR 2 rfl rfl) ?_)) | refine arrI_i (by decide) (by decide) ?_))
      refine ifB_false (by simp) ?_
      rw [wrap64_in (by omega)]
      exact ⟨30 - (i + 1), by omega, i + 1, t, rfl, by omega, by omega, rfl, ht, S⟩
    · have hlt : i < its.length := by omega
      obtain ⟨q, rfl⟩ := (S.row 0 rfl).some_of (by rw [flat_len It.cells 3 It.cells_length]; omega)
      obtain ⟨k1, k2, k3⟩ := it_cells hlt (S.row 0 rfl)
      refine idxI_i rfl rfl (by omega) ?_
      simp only [Int.toNat_natCast]
      refine ldInt_i k1 (ldInt_i k2 (ldSlice_i k3 ?_))
      refine (kind_ok its[i]).mono ?_
      rintro _ _ ⟨rfl, F⟩
      refine ⟨_, rfl, ?_⟩
      replace S := S.fra0 F
      refine ifB_i (fun e => ?_) (fun e0 => ifB_i (fun e => ?_) (fun e1 => ifB_i (fun e => ?_) (fun e2 => ifB_i (fun e => ?_) (fun e3 => ?_))))
      · refine (rByte_S (S.into [0] [] []) ht hs).mono ?_
        rintro _ _ ⟨rfl, S1⟩
        refine ⟨_, rfl, ?_⟩
        replace S := S.back [0] S1
        refine (Num_S (n := 1) (t := t) (S.into [1] [] []) ht hs (by decide)).mono ?_
        rintro _ _ ⟨rfl, S1⟩
        refine ⟨_, rfl, ?_⟩
        replace S := S.back [1] S1
        have := rget_range s t 1
        dsimp only
        rw [wrap64_in (by omega)]
        exact ⟨by rw [beq_self_eq_true], _, rget_ok ht 1, S⟩
      · refine (rShort_S (S.into [0] [] []) ht hs).mono ?_
        rintro _ _ ⟨rfl, S1⟩
        refine ⟨_, rfl, ?_⟩
        replace S := S.back [0] S1
        refine (Num_S (n := 2) (t := t) (S.into [1] [] []) ht hs (by decide)).mono ?_
        rintro _ _ ⟨rfl, S1⟩
        refine ⟨_, rfl, ?_⟩
        replace S := S.back [1] S1
        have := rget_range s t 2
        dsimp only
        rw [wrap64_in (by omega)]
        exact ⟨by rw [beq_self_eq_true], _, rget_ok ht 2, S⟩
      · refine (rWord_S (S.into [0] [] []) ht hs).mono ?_
        rintro _ _ ⟨rfl, S1⟩
        refine ⟨_, rfl, ?_⟩
        replace S := S.back [0] S1
        refine (dWord_S (t := t) (S.into [1] [] []) ht hs).mono ?_
        rintro _ _ ⟨rfl, S1⟩
        refine ⟨_, rfl, ?_⟩
        replace S := S.back [1] S1
        exact ⟨by rw [beq_self_eq_true], _, rget_ok ht 4, S⟩
      · refine (rLong_S (S.into [0] [] []) ht hs).mono ?_
        rintro _ _ ⟨rfl, S1⟩
        refine ⟨_, rfl, ?_⟩
        replace S := S.back [0] S1
        refine (Num_S (n := 8) (t := t) (S.into [1] [] []) ht hs (by decide)).mono ?_
        rintro _ _ ⟨rfl, S1⟩
        refine ⟨_, rfl, ?_⟩
        replace S := S.back [1] S1
        exact ⟨by rw [beq_self_eq_true], _, rget_ok ht 8, S⟩
      · refine (rRow_S (S.into [0] [] []) ht hs).mono ?_
        rintro _ _ ⟨p1, l1, c1, rfl, hl1, S1⟩
        refine ⟨_, _, _, rfl, ?_⟩
        replace S := S.back [0] S1
        refine (dRow_S (t := t) (S.into [1] [] []) ht hs).mono ?_
        rintro _ _ ⟨p2, l2, c2, rfl, hl2, S1⟩
        refine ⟨_, _, _, rfl, ?_⟩
        replace S := S.back [1] S1
        have hlen := (S.own 2 rfl).2.1
        have hr := rget_range s t 2
        have hrl : ∀ (n : Nat) (t : St) (x : List Int), (rw s n t).1 = some x → x.length = n := by
          intro n
          induction n with
          | zero => intro t x hx; simp [rw] at hx; simp [← hx]
          | succ n ih =>
            intro t x hx
            simp only [rw] at hx
            split at hx
            · cases hx
            · cases hy : (rw s n (rget s t 4).2).1 with
              | none => rw [hy] at hx; cases hx
              | some y => rw [hy] at hx; simp at hx; rw [← hx]; simp [ih _ _ hy]
        have hll : (rrow s t).1.length < 2 ^ 62 := by
          unfold rrow
          cases hy : (rw s (rget s t 2).1.toNat (rget s t 2).2).1 with
          | none => simp
          | some y => simp only [Option.getD_some]; rw [hrl _ _ _ hy]; omega
        refine (same4_ok (xs := (rrow s t).1) (ys := (rrow s t).1) (S.own 2 rfl).row hl1.symm (S.own 3 rfl).row hl2.symm (by omega)).mono ?_
        rintro _ _ ⟨rfl, rfl⟩
        refine ⟨_, rfl, ?_⟩
        rw [decide_eq_true rfl]
        exact ⟨rfl, _, rrow_ok ht, S.pick [0, 1] [0]⟩
  · exact ifB_dec (fun h1 => ifB_dec (fun h2 => ⟨rfl, rfl, by omega, by omega⟩) fun _ => ⟨rfl, S.fra⟩) fun _ => ⟨rfl, S.fra⟩

theorem TapeReads_ok {h : Heap} {p : Option Addr} {l c : Nat} {its : List It} (hs : Script h p its) (hl : its.length = l) (hl2 : l < 2 ^ 63) (s : List UInt8) :
    callP P n_law06_TapeReads #[.string (str s), .slice p l c] h fun v h' => v = .bool true ∧ Fra no h h' := by
  refine call_law06_TapeReads _ _ _ _ ?_
  unfold law06_TapeReads
  have S := (Sep.start h no).read (row p (its.map It.cells).flatten) hs.1
  refine (awake06_ok).mono ?_
  rintro _ _ ⟨rfl, F⟩
  refine ⟨_, rfl, ?_⟩
  replace S := S.fra0 F
  refine ⟨fun s' g => ∃ s : List UInt8, s' = (str s, (p, l, c), true, ()) ∧ s.length ≤ 60 ∧ Sep h no g [] [row p (its.map It.cells).flatten], ?_, ?_⟩
  · rintro s' g ⟨s, rfl, hs60, S⟩
    exact TapeReads_j hl hl2 (by omega) S
  · rw [str_size]
    refine ifB_dec (fun hgt => ?_) (fun hle => ⟨s, rfl, by omega, S⟩)
    refine bndI_i (n := 60) rfl (by omega) ⟨s.take 60, ?_, by rw [List.length_take]; omega, S⟩
    rw [str_extract]; rfl

theorem TapeReads_row {h : Heap} {n : Nat} {p : Option Addr} {l c : Nat} {xss : List (List Value)} (s : ByteArray) (r : Row h p xss.flatten) (he : ∀ xs ∈ xss, Mts h (n + 2) [.int .i64, .int .i64, .sl [.int .i64]] xs) (hl : xss.length = l) (hc : l ≤ c) (hm : c ≤ maxLen) :
    callP P n_law06_TapeReads #[.string s, .slice p l c] h fun v h' => v = .bool true ∧ Fra no h h' := by
  obtain ⟨its, hs, hi⟩ := script_of r he
  obtain ⟨bs, rfl⟩ := of_str s
  exact TapeReads_ok hs (by omega) (by have := maxLen_lt; omega) bs

end Go.Proofs.Ytdjofpdmdbcgjab.G
