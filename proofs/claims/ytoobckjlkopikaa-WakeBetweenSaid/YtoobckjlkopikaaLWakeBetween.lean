/- The law WakeBetween, over heaps. -/
import Derived.Test.YtoobckjlkopikaaCWake3
namespace Go.Proofs.Ytoobckjlkopikaa.G
open Go Go.Sh
set_option linter.unusedVariables false

/-- Scores between Off and On tell nothing. -/
theorem between (w : Wt) : ∀ (L : List Int) (m : Mk), (∀ x ∈ L, w.off ≤ x ∧ x < w.on) → (wrun w m L).2 = []
  | [], m, _ => rfl
  | x :: r, m, h => by
    obtain ⟨h1, h2⟩ := h x (by simp)
    have e : (wstep w m x).2 = [] := by
      unfold wstep
      rw [if_neg (show ¬ x < w.off by omega), if_pos h2]
      split <;> rfl
    simp only [wrun, e, List.nil_append]
    exact between w r _ fun y hy => h y (by simp [hy])

/-- Once something is heard none that is not below Off tells anything. -/
theorem loudly (w : Wt) : ∀ (L : List Int) (m : Mk), m.on = true → (∀ x ∈ L, w.off ≤ x) → (wrun w m L).2 = [] ∧ (wrun w m L).1.on = true
  | [], m, h, _ => ⟨rfl, h⟩
  | x :: r, m, h, hx => by
    have h1 := hx x (by simp)
    have e : wstep w m x = (⟨m.cnt + 1, m.str, true⟩, []) := by
      unfold wstep
      rw [if_pos h, if_neg (show ¬ x < w.off by omega)]
    simp only [wrun, e, List.nil_append]
    exact loudly w r _ rfl fun y hy => hx y (by simp [hy])

theorem rising (w : Wt) : ∀ (n : Nat) (c s : Int), 0 ≤ s → s + n + 1 = w.hold → wrun w ⟨c, s, false⟩ (List.replicate (n + 1) w.on) = (⟨c + n + 1, 0, true⟩, [(c + n, true)])
  | 0, c, s, h0, h => by
    have h' : s + 1 = w.hold := by omega
    simp [wrun, wstep, h']
  | n + 1, c, s, h0, h => by
    have e : wstep w ⟨c, s, false⟩ w.on = (⟨c + 1, s + 1, false⟩, []) := by
      have h' : ¬ s + 1 = w.hold := by omega
      simp [wstep, h']
    rw [List.replicate_succ]
    simp only [wrun, e, List.nil_append]
    rw [rising w n (c + 1) (s + 1) (by omega) (by omega)]
    simp only [Prod.mk.injEq, Mk.mk.injEq, List.cons.injEq, and_true]
    omega

theorem WakeBetween_ok {h : Heap} (a b c : Int) {p : Option Addr} {l d : Nat} {xs : List Int} (hx : Row h p (ints xs)) (hxl : xs.length = l) (hl : l < 2 ^ 62)
    {p2 : Option Addr} {l2 d2 : Nat} {ys : List Int} (hy : Row h p2 (ints ys)) (hyl : ys.length = l2) (hl2 : l2 < 2 ^ 62) :
    callP P n_law25_WakeBetween #[.agg #[.int .i64 a, .int .i64 b, .int .i64 c], .slice p l d, .slice p2 l2 d2] h fun v h' => v = .bool true ∧ Fra no h h' := by
  refine call_law25_WakeBetween _ _ _ _ _ _ _ _ _ ?_
  unfold law25_WakeBetween
  have S := ((Sep.start h no).read (row p (ints xs)) hx).read (row p2 (ints ys)) hy
  refine newI_S S (fun b1 _ _ S => ?_)
  refine (awake_ok).mono ?_
  rintro _ _ ⟨rfl, F⟩
  refine ⟨_, rfl, ?_⟩
  replace S := S.fra0 F
  (repeat (first | refine nilI_some ?_ | refine arrI_i (by decide) (by decide) ?_ | refine ldInt_i (S.cell 0 rfl rfl) ?_ | refine ldInt_i (S.cell 1 rfl rfl) ?_ | refine ldInt_i (S.cell 2 rfl rfl) ?_ | refine ldInt_i (S.cell 3 rfl rfl) ?_ | refine ldInt_i (S.cell 4 rfl rfl) ?_ | refine ldInt_i (S.cell 5 rfl rfl) ?_ | refine ldInt_i (S.cell 6 rfl rfl) ?_ | refine ldInt_i (S.cell 7 rfl rfl) ?_ | refine ldInt_i (S.cellR 0 rfl rfl) ?_ | refine ldInt_i (S.cellR 1 rfl rfl) ?_ | refine ldInt_i (S.cellR 2 rfl rfl) ?_ | refine ldBool_i (S.cell 0 rfl rfl) ?_ | refine ldBool_i (S.cell 1 rfl rfl) ?_ | refine ldBool_i (S.cell 2 rfl rfl) ?_ | refine ldBool_i (S.cell 3 rfl rfl) ?_ | refine ldBool_i (S.cell 4 rfl rfl) ?_ | refine ldBool_i (S.cell 5 rfl rfl) ?_ | refine ldBool_i (S.cell 6 rfl rfl) ?_ | refine ldBool_i (S.cell 7 rfl rfl) ?_ | refine ldBool_i (S.cellR 0 rfl rfl) ?_ | refine ldBool_i (S.cellR 1 rfl rfl) ?_ | refine ldBool_i (S.cellR 2 rfl rfl) ?_ | refine ldPtr_i (S.cell 0 rfl rfl) ?_ | refine ldPtr_i (S.cell 1 rfl rfl) ?_ | refine ldPtr_i (S.cell 2 rfl rfl) ?_ | refine ldPtr_i (S.cell 3 rfl rfl) ?_ | refine ldPtr_i (S.cell 4 rfl rfl) ?_ | refine ldPtr_i (S.cell 5 rfl rfl) ?_ | refine ldPtr_i (S.cell 6 rfl rfl) ?_ | refine ldPtr_i (S.cell 7 rfl rfl) ?_ | refine ldPtr_i (S.cellR 0 rfl rfl) ?_ | refine ldPtr_i (S.cellR 1 rfl rfl) ?_ | refine ldPtr_i (S.cellR 2 rfl rfl) ?_ | refine ldSlice_i (S.cell 0 rfl rfl) ?_ | refine ldSlice_i (S.cell 1 rfl rfl) ?_ | refine ldSlice_i (S.cell 2 rfl rfl) ?_ | refine ldSlice_i (S.cell 3 rfl rfl) ?_ | refine ldSlice_i (S.cell 4 rfl rfl) ?_ | refine ldSlice_i (S.cell 5 rfl rfl) ?_ | refine ldSlice_i (S.cell 6 rfl rfl) ?_ | refine ldSlice_i (S.cell 7 rfl rfl) ?_ | refine ldSlice_i (S.cellR 0 rfl rfl) ?_ | refine ldSlice_i (S.cellR 1 rfl rfl) ?_ | refine ldSlice_i (S.cellR 2 rfl rfl) ?_ | refine ldStr_i (S.cell 0 rfl rfl) ?_ | refine ldStr_i (S.cell 1 rfl rfl) ?_ | refine ldStr_i (S.cell 2 rfl rfl) ?_ | refine ldStr_i (S.cell 3 rfl rfl) ?_ | refine ldStr_i (S.cell 4 rfl rfl) ?_ | refine ldStr_i (S.cell 5 rfl rfl) ?_ | refine ldStr_i (S.cell 6 rfl rfl) ?_ | refine ldStr_i (S.cell 7 rfl rfl) ?_ | refine ldStr_i (S.cellR 0 rfl rfl) ?_ | refine ldStr_i (S.cellR 1 rfl rfl) ?_ | refine ldStr_i (S.cellR 2 rfl rfl) ?_ | refine stI_S S 0 rfl (Nat.le_of_ble_eq_true rfl) (fun _ _ S => ?_) | refine stI_S S 1 rfl (Nat.le_of_ble_eq_true rfl) (fun _ _ S => ?_) | refine stI_S S 2 rfl (Nat.le_of_ble_eq_true rfl) (fun _ _ S => ?_) | refine stI_S S 3 rfl (Nat.le_of_ble_eq_true rfl) (fun _ _ S => ?_) | refine stI_S S 4 rfl (Nat.le_of_ble_eq_true rfl) (fun _ _ S => ?_) | refine stI_S S 5 rfl (Nat.le_of_ble_eq_true rfl) (fun _ _ S => ?_) | refine stI_S S 6 rfl (Nat.le_of_ble_eq_true rfl) (fun _ _ S => ?_) | refine stI_S S 7 rfl (Nat.le_of_ble_eq_true rfl) (fun _ _ S => ?_)))
  refine (watch_ok a b c).mono ?_
  rintro _ _ ⟨rfl, F⟩
  refine ⟨_, _, _, rfl, ?_⟩
  replace S := S.fra0 F
  obtain ⟨w1, w2, w3, w4, w5, w6⟩ := watchV_ok a b c
  generalize watchV a b c = w at *
  refine newI_S S (fun b13 _ _ S => ?_)
  (repeat (first | refine nilI_some ?_ | refine arrI_i (by decide) (by decide) ?_ | refine ldInt_i (S.cell 0 rfl rfl) ?_ | refine ldInt_i (S.cell 1 rfl rfl) ?_ | refine ldInt_i (S.cell 2 rfl rfl) ?_ | refine ldInt_i (S.cell 3 rfl rfl) ?_ | refine ldInt_i (S.cell 4 rfl rfl) ?_ | refine ldInt_i (S.cell 5 rfl rfl) ?_ | refine ldInt_i (S.cell 6 rfl rfl) ?_ | refine ldInt_i (S.cell 7 rfl rfl) ?_ | refine ldInt_i (S.cellR 0 rfl rfl) ?_ | refine ldInt_i (S.cellR 1 rfl rfl) ?_ | refine ldInt_i (S.cellR 2 rfl rfl) ?_ | refine ldBool_i (S.cell 0 rfl rfl) ?_ | refine ldBool_i (S.cell 1 rfl rfl) ?_ | refine ldBool_i (S.cell 2 rfl rfl) ?_ | refine ldBool_i (S.cell 3 rfl rfl) ?_ | refine ldBool_i (S.cell 4 rfl rfl) ?_ | refine ldBool_i (S.cell 5 rfl rfl) ?_ | refine ldBool_i (S.cell 6 rfl rfl) ?_ | refine ldBool_i (S.cell 7 rfl rfl) ?_ | refine ldBool_i (S.cellR 0 rfl rfl) ?_ | refine ldBool_i (S.cellR 1 rfl rfl) ?_ | refine ldBool_i (S.cellR 2 rfl rfl) ?_ | refine ldPtr_i (S.cell 0 rfl rfl) ?_ | refine ldPtr_i (S.cell 1 rfl rfl) ?_ | refine ldPtr_i (S.cell 2 rfl rfl) ?_ | refine ldPtr_i (S.cell 3 rfl rfl) ?_ | refine ldPtr_i (S.cell 4 rfl rfl) ?_ | refine ldPtr_i (S.cell 5 rfl rfl) ?_ | refine ldPtr_i (S.cell 6 rfl rfl) ?_ | refine ldPtr_i (S.cell 7 rfl rfl) ?_ | refine ldPtr_i (S.cellR 0 rfl rfl) ?_ | refine ldPtr_i (S.cellR 1 rfl rfl) ?_ | refine ldPtr_i (S.cellR 2 rfl rfl) ?_ | refine ldSlice_i (S.cell 0 rfl rfl) ?_ | refine ldSlice_i (S.cell 1 rfl rfl) ?_ | refine ldSlice_i (S.cell 2 rfl rfl) ?_ | refine ldSlice_i (S.cell 3 rfl rfl) ?_ | refine ldSlice_i (S.cell 4 rfl rfl) ?_ | refine ldSlice_i (S.cell 5 rfl rfl) ?_ | refine ldSlice_i (S.cell 6 rfl rfl) ?_ | refine ldSlice_i (S.cell 7 rfl rfl) ?_ | refine ldSlice_i (S.cellR 0 rfl rfl) ?_ | refine ldSlice_i (S.cellR 1 rfl rfl) ?_ | refine ldSlice_i (S.cellR 2 rfl rfl) ?_ | refine ldStr_i (S.cell 0 rfl rfl) ?_ | refine ldStr_i (S.cell 1 rfl rfl) ?_ | refine ldStr_i (S.cell 2 rfl rfl) ?_ | refine ldStr_i (S.cell 3 rfl rfl) ?_ | refine ldStr_i (S.cell 4 rfl rfl) ?_ | refine ldStr_i (S.cell 5 rfl rfl) ?_ | refine ldStr_i (S.cell 6 rfl rfl) ?_ | refine ldStr_i (S.cell 7 rfl rfl) ?_ | refine ldStr_i (S.cellR 0 rfl rfl) ?_ | refine ldStr_i (S.cellR 1 rfl rfl) ?_ | refine ldStr_i (S.cellR 2 rfl rfl) ?_ | refine stI_S S 0 rfl (Nat.le_of_ble_eq_true rfl) (fun _ _ S => ?_) | refine stI_S S 1 rfl (Nat.le_of_ble_eq_true rfl) (fun _ _ S => ?_) | refine stI_S S 2 rfl (Nat.le_of_ble_eq_true rfl) (fun _ _ S => ?_) | refine stI_S S 3 rfl (Nat.le_of_ble_eq_true rfl) (fun _ _ S => ?_) | refine stI_S S 4 rfl (Nat.le_of_ble_eq_true rfl) (fun _ _ S => ?_) | refine stI_S S 5 rfl (Nat.le_of_ble_eq_true rfl) (fun _ _ S => ?_) | refine stI_S S 6 rfl (Nat.le_of_ble_eq_true rfl) (fun _ _ S => ?_) | refine stI_S S 7 rfl (Nat.le_of_ble_eq_true rfl) (fun _ _ S => ?_)))
  refine (New_S (w := w) ⟨w1, w2, by omega⟩).mono ?_
  rintro _ _ ⟨b22, rfl, S1⟩
  refine ⟨_, rfl, ?_⟩
  replace S := S.add S1 fun _ _ h => h
  refine (few_ok (S.row 0 rfl) hxl hl).mono ?_
  rintro _ _ ⟨p24, l24, c24, rfl, hl24, S1⟩
  refine ⟨_, _, _, rfl, ?_⟩
  replace S := S.add S1 fun _ _ h => h
  have hL : (fewV xs).length ≤ 60 := by simp [fewV]; omega
  generalize fewV xs = L at *
  have hm0 : Mok w ⟨0, 0, false⟩ := ⟨by simp, by simp only; omega, by simp⟩
  refine (Push_S (xs := L) ((S.into [2] [3] []).rowO 0) hm0 (by omega) hl24.symm (by omega) (by simp only; omega)).mono ?_
  rintro _ _ ⟨p26, l26, c26, rfl, hl26, S1⟩
  refine ⟨_, _, _, rfl, ?_⟩
  replace S := S.back1 2 S1
  have hm1 : Mok w (wrun w ⟨0, 0, false⟩ L).1 := wrun_ok _ hm0
  have hc1 := wrun_cnt w L ⟨0, 0, false⟩
  generalize wrun w ⟨0, 0, false⟩ L = r at *
  obtain ⟨m, es⟩ := r
  simp only at hl26 S hm1 hc1
  replace S := (S.pick [1, 2] [1]).nil 1
  replace S : Sep h no _ [blk b13 [.int .i64 w.on, .int .i64 w.off, .int .i64 w.hold], wk b22 w m, own 1 none 0 0 (ints [])] [row p2 (ints ys)] := S
  refine ⟨fun s g => ∃ (q : Option Addr) (k e : Nat) (L2 : List Int), s = ((p2, l2, d2), true, ⟨b13, 0, none⟩, some ⟨b22, 0, none⟩, (q, k, e), ()) ∧ k ≤ 60 ∧ L2.length = k ∧ (∀ x ∈ L2, w.off ≤ x ∧ x < w.on) ∧
      Sep h no g [blk b13 [.int .i64 w.on, .int .i64 w.off, .int .i64 w.hold], wk b22 w m, own 1 q k e (ints L2)] [row p2 (ints ys)], ?_, ?_⟩
  · rintro s g ⟨q, k, e, L2, rfl, hk, hL2, hbt, S⟩
    unfold law25_WakeBetween_j10
    dsimp only
    refine (Push_S (xs := L2) ((S.into [1] [2] []).rowO 0) hm1 (by omega) hL2 (by omega) (by omega)).mono ?_
    rintro _ _ ⟨p30, l30, c30, rfl, hl30, S1⟩
    refine ⟨_, _, _, rfl, ?_⟩
    replace S := S.back1 1 S1
    rw [between w L2 m hbt] at hl30 S
    subst hl30
    (repeat (first | refine nilI_some ?_ | refine arrI_i (by decide) (by decide) ?_ | refine ldInt_i (S.cell 0 rfl rfl) ?_ | refine ldInt_i (S.cell 1 rfl rfl) ?_ | refine ldInt_i (S.cell 2 rfl rfl) ?_ | refine ldInt_i (S.cell 3 rfl rfl) ?_ | refine ldInt_i (S.cell 4 rfl rfl) ?_ | refine ldInt_i (S.cell 5 rfl rfl) ?_ | refine ldInt_i (S.cell 6 rfl rfl) ?_ | refine ldInt_i (S.cell 7 rfl rfl) ?_ | refine ldInt_i (S.cellR 0 rfl rfl) ?_ | refine ldInt_i (S.cellR 1 rfl rfl) ?_ | refine ldInt_i (S.cellR 2 rfl rfl) ?_ | refine ldBool_i (S.cell 0 rfl rfl) ?_ | refine ldBool_i (S.cell 1 rfl rfl) ?_ | refine ldBool_i (S.cell 2 rfl rfl) ?_ | refine ldBool_i (S.cell 3 rfl rfl) ?_ | refine ldBool_i (S.cell 4 rfl rfl) ?_ | refine ldBool_i (S.cell 5 rfl rfl) ?_ | refine ldBool_i (S.cell 6 rfl rfl) ?_ | refine ldBool_i (S.cell 7 rfl rfl) ?_ | refine ldBool_i (S.cellR 0 rfl rfl) ?_ | refine ldBool_i (S.cellR 1 rfl rfl) ?_ | refine ldBool_i (S.cellR 2 rfl rfl) ?_ | refine ldPtr_i (S.cell 0 rfl rfl) ?_ | refine ldPtr_i (S.cell 1 rfl rfl) ?_ | refine ldPtr_i (S.cell 2 rfl rfl) ?_ | refine ldPtr_i (S.cell 3 rfl rfl) ?_ | refine ldPtr_i (S.cell 4 rfl rfl) ?_ | refine ldPtr_i (S.cell 5 rfl rfl) ?_ | refine ldPtr_i (S.cell 6 rfl rfl) ?_ | refine ldPtr_i (S.cell 7 rfl rfl) ?_ | refine ldPtr_i (S.cellR 0 rfl rfl) ?_ | refine ldPtr_i (S.cellR 1 rfl rfl) ?_ | refine ldPtr_i (S.cellR 2 rfl rfl) ?_ | refine ldSlice_i (S.cell 0 rfl rfl) ?_ | refine ldSlice_i (S.cell 1 rfl rfl) ?_ | refine ldSlice_i (S.cell 2 rfl rfl) ?_ | refine ldSlice_i (S.cell 3 rfl rfl) ?_ | refine ldSlice_i (S.cell 4 rfl rfl) ?_ | refine ldSlice_i (S.cell 5 rfl rfl) ?_ | refine ldSlice_i (S.cell 6 rfl rfl) ?_ | refine ldSlice_i (S.cell 7 rfl rfl) ?_ | refine ldSlice_i (S.cellR 0 rfl rfl) ?_ | refine ldSlice_i (S.cellR 1 rfl rfl) ?_ | refine ldSlice_i (S.cellR 2 rfl rfl) ?_ | refine ldStr_i (S.cell 0 rfl rfl) ?_ | refine ldStr_i (S.cell 1 rfl rfl) ?_ | refine ldStr_i (S.cell 2 rfl rfl) ?_ | refine ldStr_i (S.cell 3 rfl rfl) ?_ | refine ldStr_i (S.cell 4 rfl rfl) ?_ | refine ldStr_i (S.cell 5 rfl rfl) ?_ | refine ldStr_i (S.cell 6 rfl rfl) ?_ | refine ldStr_i (S.cell 7 rfl rfl) ?_ | refine ldStr_i (S.cellR 0 rfl rfl) ?_ | refine ldStr_i (S.cellR 1 rfl rfl) ?_ | refine ldStr_i (S.cellR 2 rfl rfl) ?_ | refine stI_S S 0 rfl (Nat.le_of_ble_eq_true rfl) (fun _ _ S => ?_) | refine stI_S S 1 rfl (Nat.le_of_ble_eq_true rfl) (fun _ _ S => ?_) | refine stI_S S 2 rfl (Nat.le_of_ble_eq_true rfl) (fun _ _ S => ?_) | refine stI_S S 3 rfl (Nat.le_of_ble_eq_true rfl) (fun _ _ S => ?_) | refine stI_S S 4 rfl (Nat.le_of_ble_eq_true rfl) (fun _ _ S => ?_) | refine stI_S S 5 rfl (Nat.le_of_ble_eq_true rfl) (fun _ _ S => ?_) | refine stI_S S 6 rfl (Nat.le_of_ble_eq_true rfl) (fun _ _ S => ?_) | refine stI_S S 7 rfl (Nat.le_of_ble_eq_true rfl) (fun _ _ S => ?_)))
    refine (New_S (w := w) ⟨w1, w2, by omega⟩).mono ?_
    rintro _ _ ⟨b35, rfl, S1⟩
    refine ⟨_, rfl, ?_⟩
    replace S := S.add S1 fun _ _ h => h
    replace S := (S.pick [0, 4] [0]).nil 1
    replace S : Sep h no _ [blk b13 [.int .i64 w.on, .int .i64 w.off, .int .i64 w.hold], wk b35 w ⟨0, 0, false⟩, own 1 none 0 0 (ints [])] [row p2 (ints ys)] := S
    refine LoopS_i (fun n s g => ∃ (i : Nat) (q : Option Addr) (k e : Nat), s = ((p2, l2, d2), true, ⟨b13, 0, none⟩, (p30, 0, c30), some ⟨b35, 0, none⟩, (q, k, e), (i : Int), ()) ∧ (i : Int) ≤ w.hold ∧ n = (w.hold - i).toNat ∧ k = i ∧
      Sep h no g [blk b13 [.int .i64 w.on, .int .i64 w.off, .int .i64 w.hold], wk b35 w ⟨0, 0, false⟩, own 1 q k e (ints (List.replicate i w.on))] [row p2 (ints ys)]) w.hold.toNat ⟨0, none, 0, 0, rfl, by omega, by simp, rfl, S⟩ ?_
    rintro n s g ⟨i, q, k, e, rfl, hi, rfl, rfl, S⟩
    unfold law25_WakeBetween_l14
    dsimp only
    (repeat (first | refine nilI_some ?_ | refine arrI_i (by decide) (by decide) ?_ | refine ldInt_i (S.cell 0 rfl rfl) ?_ | refine ldInt_i (S.cell 1 rfl rfl) ?_ | refine ldInt_i (S.cell 2 rfl rfl) ?_ | refine ldInt_i (S.cell 3 rfl rfl) ?_ | refine ldInt_i (S.cell 4 rfl rfl) ?_ | refine ldInt_i (S.cell 5 rfl rfl) ?_ | refine ldInt_i (S.cell 6 rfl rfl) ?_ | refine ldInt_i (S.cell 7 rfl rfl) ?_ | refine ldInt_i (S.cellR 0 rfl rfl) ?_ | refine ldInt_i (S.cellR 1 rfl rfl) ?_ | refine ldInt_i (S.cellR 2 rfl rfl) ?_ | refine ldBool_i (S.cell 0 rfl rfl) ?_ | refine ldBool_i (S.cell 1 rfl rfl) ?_ | refine ldBool_i (S.cell 2 rfl rfl) ?_ | refine ldBool_i (S.cell 3 rfl rfl) ?_ | refine ldBool_i (S.cell 4 rfl rfl) ?_ | refine ldBool_i (S.cell 5 rfl rfl) ?_ | refine ldBool_i (S.cell 6 rfl rfl) ?_ | refine ldBool_i (S.cell 7 rfl rfl) ?_ | refine ldBool_i (S.cellR 0 rfl rfl) ?_ | refine ldBool_i (S.cellR 1 rfl rfl) ?_ | refine ldBool_i (S.cellR 2 rfl rfl) ?_ | refine ldPtr_i (S.cell 0 rfl rfl) ?_ | refine ldPtr_i (S.cell 1 rfl rfl) ?_ | refine ldPtr_i (S.cell 2 rfl rfl) ?_ | refine ldPtr_i (S.cell 3 rfl rfl) ?_ | refine ldPtr_i (S.cell 4 rfl rfl) ?_ | refine ldPtr_i (S.cell 5 rfl rfl) ?_ | refine ldPtr_i (S.cell 6 rfl rfl) ?_ | refine ldPtr_i (S.cell 7 rfl rfl) ?_ | refine ldPtr_i (S.cellR 0 rfl rfl) ?_ | refine ldPtr_i (S.cellR 1 rfl rfl) ?_ | refine ldPtr_i (S.cellR 2 rfl rfl) ?_ | refine ldSlice_i (S.cell 0 rfl rfl) ?_ | refine ldSlice_i (S.cell 1 rfl rfl) ?_ | refine ldSlice_i (S.cell 2 rfl rfl) ?_ | refine ldSlice_i (S.cell 3 rfl rfl) ?_ | refine ldSlice_i (S.cell 4 rfl rfl) ?_ | refine ldSlice_i (S.cell 5 rfl rfl) ?_ | refine ldSlice_i (S.cell 6 rfl rfl) ?_ | refine ldSlice_i (S.cell 7 rfl rfl) ?_ | refine ldSlice_i (S.cellR 0 rfl rfl) ?_ | refine ldSlice_i (S.cellR 1 rfl rfl) ?_ | refine ldSlice_i (S.cellR 2 rfl rfl) ?_ | refine ldStr_i (S.cell 0 rfl rfl) ?_ | refine ldStr_i (S.cell 1 rfl rfl) ?_ | refine ldStr_i (S.cell 2 rfl rfl) ?_ | refine ldStr_i (S.cell 3 rfl rfl) ?_ | refine ldStr_i (S.cell 4 rfl rfl) ?_ | refine ldStr_i (S.cell 5 rfl rfl) ?_ | refine ldStr_i (S.cell 6 rfl rfl) ?_ | refine ldStr_i (S.cell 7 rfl rfl) ?_ | refine ldStr_i (S.cellR 0 rfl rfl) ?_ | refine ldStr_i (S.cellR 1 rfl rfl) ?_ | refine ldStr_i (S.cellR 2 rfl rfl) ?_ | refine stI_S S 0 rfl (Nat.le_of_ble_eq_true rfl) (fun _ _ S => ?_) | refine stI_S S 1 rfl (Nat.le_of_ble_eq_true rfl) (fun _ _ S => ?_) | refine stI_S S 2 rfl (Nat.le_of_ble_eq_true rfl) (fun _ _ S => ?_) | refine stI_S S 3 rfl (Nat.le_of_ble_eq_true rfl) (fun _ _ S => ?_) | refine stI_S S 4 rfl (Nat.le_of_ble_eq_true rfl) (fun _ _ S => ?_) | refine stI_S S 5 rfl (Nat.le_of_ble_eq_true rfl) (fun _ _ S => ?_) | refine stI_S S 6 rfl (Nat.le_of_ble_eq_true rfl) (fun _ _ S => ?_) | refine stI_S S 7 rfl (Nat.le_of_ble_eq_true rfl) (fun _ _ S => ?_)))
    refine ifB_dec (fun hlt => ?_) (fun hge => ?_)
    · (repeat (first | refine nilI_some ?_ | refine arrI_i (by decide) (by decide) ?_ | refine ldInt_i (S.cell 0 rfl rfl) ?_ | refine ldInt_i (S.cell 1 rfl rfl) ?_ | refine ldInt_i (S.cell 2 rfl rfl) ?_ | refine ldInt_i (S.cell 3 rfl rfl) ?_ | refine ldInt_i (S.cell 4 rfl rfl) ?_ | refine ldInt_i (S.cell 5 rfl rfl) ?_ | refine ldInt_i (S.cell 6 rfl rfl) ?_ | refine ldInt_i (S.cell 7 rfl rfl) ?_ | refine ldInt_i (S.cellR 0 rfl rfl) ?_ | refine ldInt_i (S.cellR 1 rfl rfl) ?_ | refine ldInt_i (S.cellR 2 rfl rfl) ?_ | refine ldBool_i (S.cell 0 rfl rfl) ?_ | refine ldBool_i (S.cell 1 rfl rfl) ?_ | refine ldBool_i (S.cell 2 rfl rfl) ?_ | refine ldBool_i (S.cell 3 rfl rfl) ?_ | refine ldBool_i (S.cell 4 rfl rfl) ?_ | refine ldBool_i (S.cell 5 rfl rfl) ?_ | refine ldBool_i (S.cell 6 rfl rfl) ?_ | refine ldBool_i (S.cell 7 rfl rfl) ?_ | refine ldBool_i (S.cellR 0 rfl rfl) ?_ | refine ldBool_i (S.cellR 1 rfl rfl) ?_ | refine ldBool_i (S.cellR 2 rfl rfl) ?_ | refine ldPtr_i (S.cell 0 rfl rfl) ?_ | refine ldPtr_i (S.cell 1 rfl rfl) ?_ | refine ldPtr_i (S.cell 2 rfl rfl) ?_ | refine ldPtr_i (S.cell 3 rfl rfl) ?_ | refine ldPtr_i (S.cell 4 rfl rfl) ?_ | refine ldPtr_i (S.cell 5 rfl rfl) ?_ | refine ldPtr_i (S.cell 6 rfl rfl) ?_ | refine ldPtr_i (S.cell 7 rfl rfl) ?_ | refine ldPtr_i (S.cellR 0 rfl rfl) ?_ | refine ldPtr_i (S.cellR 1 rfl rfl) ?_ | refine ldPtr_i (S.cellR 2 rfl rfl) ?_ | refine ldSlice_i (S.cell 0 rfl rfl) ?_ | refine ldSlice_i (S.cell 1 rfl rfl) ?_ | refine ldSlice_i (S.cell 2 rfl rfl) ?_ | refine ldSlice_i (S.cell 3 rfl rfl) ?_ | refine ldSlice_i (S.cell 4 rfl rfl) ?_ | refine ldSlice_i (S.cell 5 rfl rfl) ?_ | refine ldSlice_i (S.cell 6 rfl rfl) ?_ | refine ldSlice_i (S.cell 7 rfl rfl) ?_ | refine ldSlice_i (S.cellR 0 rfl rfl) ?_ | refine ldSlice_i (S.cellR 1 rfl rfl) ?_ | refine ldSlice_i (S.cellR 2 rfl rfl) ?_ | refine ldStr_i (S.cell 0 rfl rfl) ?_ | refine ldStr_i (S.cell 1 rfl rfl) ?_ | refine ldStr_i (S.cell 2 rfl rfl) ?_ | refine ldStr_i (S.cell 3 rfl rfl) ?_ | refine ldStr_i (S.cell 4 rfl rfl) ?_ | refine ldStr_i (S.cell 5 rfl rfl) ?_ | refine ldStr_i (S.cell 6 rfl rfl) ?_ | refine ldStr_i (S.cell 7 rfl rfl) ?_ | refine ldStr_i (S.cellR 0 rfl rfl) ?_ | refine ldStr_i (S.cellR 1 rfl rfl) ?_ | refine ldStr_i (S.cellR 2 rfl rfl) ?_ | refine stI_S S 0 rfl (Nat.le_of_ble_eq_true rfl) (fun _ _ S => ?_) | refine stI_S S 1 rfl (Nat.le_of_ble_eq_true rfl) (fun _ _ S => ?_) | refine stI_S S 2 rfl (Nat.le_of_ble_eq_true rfl) (fun _ _ S => ?_) | refine stI_S S 3 rfl (Nat.le_of_ble_eq_true rfl) (fun _ _ S => ?_) | refine stI_S S 4 rfl (Nat.le_of_ble_eq_true rfl) (fun _ _ S => ?_) | refine stI_S S 5 rfl (Nat.le_of_ble_eq_true rfl) (fun _ _ S => ?_) | refine stI_S S 6 rfl (Nat.le_of_ble_eq_true rfl) (fun _ _ S => ?_) | refine stI_S S 7 rfl (Nat.le_of_ble_eq_true rfl) (fun _ _ S => ?_)))
      refine newI_S S (fun b39 _ _ S => ?_)
      refine appI_S S 2 (ys := ints [w.on]) rfl rfl (by decide) (by omega) (Row.of_at (S.at 3 rfl)) rfl (by simp [ints, one1]) fun p' l' c' h' hl' S => ?_
      rw [wrap64_in (by omega)]
      refine ⟨(w.hold - (k + 1 : Nat)).toNat, by omega, k + 1, p', l', c', rfl, by omega, rfl, hl', ?_⟩
      have e : ints (List.replicate k w.on) ++ ints [w.on] = ints (List.replicate (k + 1) w.on) := by
        rw [List.replicate_succ']; simp [ints]
      rw [e] at S
      exact S.pick [0, 1, 2] [0]
    · have hk : (k : Int) = w.hold := by omega
      refine (Push_S (xs := List.replicate k w.on) ((S.into [1] [2] []).rowO 0) hm0 (by omega) (by simp) (by omega) (by simp only; omega)).mono ?_
      rintro _ _ ⟨p44, l44, c44, rfl, hl44, S1⟩
      refine ⟨_, _, _, rfl, ?_⟩
      replace S := S.back1 1 S1
      obtain ⟨n, rfl⟩ : ∃ n, k = n + 1 := ⟨k - 1, by omega⟩
      have hr := rising w n 0 0 (by omega) (by omega)
      rw [hr] at hl44 S
      simp only [List.length_singleton] at hl44
      subst hl44
      have hm2 : Mok w ⟨0 + n + 1, 0, true⟩ := ⟨by simp, by simp only; omega, by simp⟩
      replace S : Sep h no _ [blk b13 [.int .i64 w.on, .int .i64 w.off, .int .i64 w.hold], wk b35 w ⟨0 + n + 1, 0, true⟩, own 1 q (n + 1) e (ints (List.replicate (n + 1) w.on)), own 2 p44 1 c44 (evs [(0 + n, true)])] [row p2 (ints ys)] := S
      refine ⟨fun s g => ∃ (q : Option Addr) (k e : Nat) (L2 : List Int), s = (true, ⟨b13, 0, none⟩, (p30, 0, c30), some ⟨b35, 0, none⟩, (q, k, e), (p44, 1, c44), ()) ∧ k ≤ 64 ∧ L2.length = k ∧ (∀ x ∈ L2, w.off ≤ x) ∧
        Sep h no g [blk b13 [.int .i64 w.on, .int .i64 w.off, .int .i64 w.hold], wk b35 w ⟨0 + n + 1, 0, true⟩, own 1 q k e (ints L2), own 2 p44 1 c44 (evs [(0 + n, true)])] [row p2 (ints ys)], ?_, ?_⟩
      · rintro s g ⟨q, k, e, L2, rfl, hk2, hL2, hbt, S⟩
        unfold law25_WakeBetween_j22
        dsimp only
        refine (Push_S (xs := L2) ((S.into [1] [2] []).rowO 0) hm2 (by omega) hL2 (by omega) (by simp only; omega)).mono ?_
        rintro _ _ ⟨p48, l48, c48, rfl, hl48, S1⟩
        refine ⟨_, _, _, rfl, ?_⟩
        replace S := S.back1 1 S1
        obtain ⟨hq, hon⟩ := loudly w L2 ⟨0 + n + 1, 0, true⟩ rfl hbt
        rw [hq] at hl48
        subst hl48
        refine ifB_true rfl (ifB_true rfl (ifB_true rfl ?_))
        obtain ⟨a49, rfl⟩ := (S.own 3 rfl).row.some_of (by rw [evs_length]; exact Nat.le_of_ble_eq_true rfl)
        have hev := evs_at (es := [((0 : Int) + n, true)]) (i := 0) (Nat.le_of_ble_eq_true rfl)
        have k1 := (S.own 3 rfl).row.cell hev.1
        have k2 := (S.own 3 rfl).row.cell hev.2
        refine idxI_i rfl (k := 0) rfl (by decide) (ldInt_i k1 (ldBool_i (by rw [show Int.toNat 0 * 2 = 0 * 2 from rfl, add_add _ _ (by omega)]; exact k2) ?_))
        (repeat (first | refine nilI_some ?_ | refine arrI_i (by decide) (by decide) ?_ | refine ldInt_i (S.cell 0 rfl rfl) ?_ | refine ldInt_i (S.cell 1 rfl rfl) ?_ | refine ldInt_i (S.cell 2 rfl rfl) ?_ | refine ldInt_i (S.cell 3 rfl rfl) ?_ | refine ldInt_i (S.cell 4 rfl rfl) ?_ | refine ldInt_i (S.cell 5 rfl rfl) ?_ | refine ldInt_i (S.cell 6 rfl rfl) ?_ | refine ldInt_i (S.cell 7 rfl rfl) ?_ | refine ldInt_i (S.cellR 0 rfl rfl) ?_ | refine ldInt_i (S.cellR 1 rfl rfl) ?_ | refine ldInt_i (S.cellR 2 rfl rfl) ?_ | refine ldBool_i (S.cell 0 rfl rfl) ?_ | refine ldBool_i (S.cell 1 rfl rfl) ?_ | refine ldBool_i (S.cell 2 rfl rfl) ?_ | refine ldBool_i (S.cell 3 rfl rfl) ?_ | refine ldBool_i (S.cell 4 rfl rfl) ?_ | refine ldBool_i (S.cell 5 rfl rfl) ?_ | refine ldBool_i (S.cell 6 rfl rfl) ?_ | refine ldBool_i (S.cell 7 rfl rfl) ?_ | refine ldBool_i (S.cellR 0 rfl rfl) ?_ | refine ldBool_i (S.cellR 1 rfl rfl) ?_ | refine ldBool_i (S.cellR 2 rfl rfl) ?_ | refine ldPtr_i (S.cell 0 rfl rfl) ?_ | refine ldPtr_i (S.cell 1 rfl rfl) ?_ | refine ldPtr_i (S.cell 2 rfl rfl) ?_ | refine ldPtr_i (S.cell 3 rfl rfl) ?_ | refine ldPtr_i (S.cell 4 rfl rfl) ?_ | refine ldPtr_i (S.cell 5 rfl rfl) ?_ | refine ldPtr_i (S.cell 6 rfl rfl) ?_ | refine ldPtr_i (S.cell 7 rfl rfl) ?_ | refine ldPtr_i (S.cellR 0 rfl rfl) ?_ | refine ldPtr_i (S.cellR 1 rfl rfl) ?_ | refine ldPtr_i (S.cellR 2 rfl rfl) ?_ | refine ldSlice_i (S.cell 0 rfl rfl) ?_ | refine ldSlice_i (S.cell 1 rfl rfl) ?_ | refine ldSlice_i (S.cell 2 rfl rfl) ?_ | refine ldSlice_i (S.cell 3 rfl rfl) ?_ | refine ldSlice_i (S.cell 4 rfl rfl) ?_ | refine ldSlice_i (S.cell 5 rfl rfl) ?_ | refine ldSlice_i (S.cell 6 rfl rfl) ?_ | refine ldSlice_i (S.cell 7 rfl rfl) ?_ | refine ldSlice_i (S.cellR 0 rfl rfl) ?_ | refine ldSlice_i (S.cellR 1 rfl rfl) ?_ | refine ldSlice_i (S.cellR 2 rfl rfl) ?_ | refine ldStr_i (S.cell 0 rfl rfl) ?_ | refine ldStr_i (S.cell 1 rfl rfl) ?_ | refine ldStr_i (S.cell 2 rfl rfl) ?_ | refine ldStr_i (S.cell 3 rfl rfl) ?_ | refine ldStr_i (S.cell 4 rfl rfl) ?_ | refine ldStr_i (S.cell 5 rfl rfl) ?_ | refine ldStr_i (S.cell 6 rfl rfl) ?_ | refine ldStr_i (S.cell 7 rfl rfl) ?_ | refine ldStr_i (S.cellR 0 rfl rfl) ?_ | refine ldStr_i (S.cellR 1 rfl rfl) ?_ | refine ldStr_i (S.cellR 2 rfl rfl) ?_ | refine stI_S S 0 rfl (Nat.le_of_ble_eq_true rfl) (fun _ _ S => ?_) | refine stI_S S 1 rfl (Nat.le_of_ble_eq_true rfl) (fun _ _ S => ?_) | refine stI_S S 2 rfl (Nat.le_of_ble_eq_true rfl) (fun _ _ S => ?_) | refine stI_S S 3 rfl (Nat.le_of_ble_eq_true rfl) (fun _ _ S => ?_) | refine stI_S S 4 rfl (Nat.le_of_ble_eq_true rfl) (fun _ _ S => ?_) | refine stI_S S 5 rfl (Nat.le_of_ble_eq_true rfl) (fun _ _ S => ?_) | refine stI_S S 6 rfl (Nat.le_of_ble_eq_true rfl) (fun _ _ S => ?_) | refine stI_S S 7 rfl (Nat.le_of_ble_eq_true rfl) (fun _ _ S => ?_)))
        refine ifB_true ?_ (ifB_true rfl ?_)
        · rw [wrap64_in (by omega)]
          simp
          omega
        · refine (On_ok (S.at 1 rfl)).mono ?_
          rintro _ _ ⟨rfl, rfl⟩
          refine ⟨_, rfl, k1, (by rw [show Int.toNat 0 * 2 = 0 * 2 from rfl, add_add _ _ (by omega)]; exact k2), by rw [hon], S.fra⟩
      · refine LoopS_i (fun m s g => ∃ (i : Nat) (q : Option Addr) (k e : Nat) (L2 : List Int), s = ((p2, l2, d2), true, ⟨b13, 0, none⟩, (p30, 0, c30), some ⟨b35, 0, none⟩, (q, k, e), (p44, 1, c44), (i : Int), ()) ∧ i ≤ 60 ∧ i ≤ l2 ∧ m = 60 - i ∧ k ≤ 4 + i ∧ L2.length = k ∧ (∀ x ∈ L2, w.off ≤ x) ∧
          Sep h no g [blk b13 [.int .i64 w.on, .int .i64 w.off, .int .i64 w.hold], wk b35 w ⟨0 + n + 1, 0, true⟩, own 1 q k e (ints L2), own 2 p44 1 c44 (evs [(0 + n, true)])] [row p2 (ints ys)]) 60
          ⟨0, q, n + 1, e, List.replicate (n + 1) w.on, rfl, by omega, by omega, rfl, by omega, by simp, fun x hx => by rw [List.eq_of_mem_replicate hx]; exact w1, S⟩ ?_
        rintro m s g ⟨i, q, k, e, L2, rfl, hi, hi2, rfl, hk2, hL2, hbt, S⟩
        unfold law25_WakeBetween_l19
        dsimp only
        have fin : ∃ q' k' e' L2', ((true, ⟨b13, 0, none⟩, (p30, 0, c30), some ⟨b35, 0, none⟩, (q, k, e), (p44, 1, c44), ()) : Bool × Addr × (Option Addr × Nat × Nat) × Option Addr × (Option Addr × Nat × Nat) × (Option Addr × Nat × Nat) × Unit) =
            (true, ⟨b13, 0, none⟩, (p30, 0, c30), some ⟨b35, 0, none⟩, (q', k', e'), (p44, 1, c44), ()) ∧ k' ≤ 64 ∧ L2'.length = k' ∧ (∀ x ∈ L2', w.off ≤ x) ∧
            Sep h no g [blk b13 [.int .i64 w.on, .int .i64 w.off, .int .i64 w.hold], wk b35 w ⟨0 + n + 1, 0, true⟩, own 1 q' k' e' (ints L2'), own 2 p44 1 c44 (evs [(0 + n, true)])] [row p2 (ints ys)] := ⟨q, k, e, L2, rfl, by omega, hL2, hbt, S⟩
        refine ifB_dec (fun h1 => ifB_dec (fun h2 => ?_) fun h2 => fin) fun h1 => fin
        have hlt : i < ys.length := by omega
        obtain ⟨a56, rfl⟩ := (S.row 0 rfl).some_of (by rw [ints_length]; omega)
        refine idxI_i rfl rfl (by omega) ?_
        (repeat (first | refine nilI_some ?_ | refine arrI_i (by decide) (by decide) ?_ | refine ldInt_i (S.cell 0 rfl rfl) ?_ | refine ldInt_i (S.cell 1 rfl rfl) ?_ | refine ldInt_i (S.cell 2 rfl rfl) ?_ | refine ldInt_i (S.cell 3 rfl rfl) ?_ | refine ldInt_i (S.cell 4 rfl rfl) ?_ | refine ldInt_i (S.cell 5 rfl rfl) ?_ | refine ldInt_i (S.cell 6 rfl rfl) ?_ | refine ldInt_i (S.cell 7 rfl rfl) ?_ | refine ldInt_i (S.cellR 0 rfl rfl) ?_ | refine ldInt_i (S.cellR 1 rfl rfl) ?_ | refine ldInt_i (S.cellR 2 rfl rfl) ?_ | refine ldBool_i (S.cell 0 rfl rfl) ?_ | refine ldBool_i (S.cell 1 rfl rfl) ?_ | refine ldBool_i (S.cell 2 rfl rfl) ?_ | refine ldBool_i (S.cell 3 rfl rfl) ?_ | refine ldBool_i (S.cell 4 rfl rfl) ?_ | refine ldBool_i (S.cell 5 rfl rfl) ?_ | refine ldBool_i (S.cell 6 rfl rfl) ?_ | refine ldBool_i (S.cell 7 rfl rfl) ?_ | refine ldBool_i (S.cellR 0 rfl rfl) ?_ | refine ldBool_i (S.cellR 1 rfl rfl) ?_ | refine ldBool_i (S.cellR 2 rfl rfl) ?_ | refine ldPtr_i (S.cell 0 rfl rfl) ?_ | refine ldPtr_i (S.cell 1 rfl rfl) ?_ | refine ldPtr_i (S.cell 2 rfl rfl) ?_ | refine ldPtr_i (S.cell 3 rfl rfl) ?_ | refine ldPtr_i (S.cell 4 rfl rfl) ?_ | refine ldPtr_i (S.cell 5 rfl rfl) ?_ | refine ldPtr_i (S.cell 6 rfl rfl) ?_ | refine ldPtr_i (S.cell 7 rfl rfl) ?_ | refine ldPtr_i (S.cellR 0 rfl rfl) ?_ | refine ldPtr_i (S.cellR 1 rfl rfl) ?_ | refine ldPtr_i (S.cellR 2 rfl rfl) ?_ | refine ldSlice_i (S.cell 0 rfl rfl) ?_ | refine ldSlice_i (S.cell 1 rfl rfl) ?_ | refine ldSlice_i (S.cell 2 rfl rfl) ?_ | refine ldSlice_i (S.cell 3 rfl rfl) ?_ | refine ldSlice_i (S.cell 4 rfl rfl) ?_ | refine ldSlice_i (S.cell 5 rfl rfl) ?_ | refine ldSlice_i (S.cell 6 rfl rfl) ?_ | refine ldSlice_i (S.cell 7 rfl rfl) ?_ | refine ldSlice_i (S.cellR 0 rfl rfl) ?_ | refine ldSlice_i (S.cellR 1 rfl rfl) ?_ | refine ldSlice_i (S.cellR 2 rfl rfl) ?_ | refine ldStr_i (S.cell 0 rfl rfl) ?_ | refine ldStr_i (S.cell 1 rfl rfl) ?_ | refine ldStr_i (S.cell 2 rfl rfl) ?_ | refine ldStr_i (S.cell 3 rfl rfl) ?_ | refine ldStr_i (S.cell 4 rfl rfl) ?_ | refine ldStr_i (S.cell 5 rfl rfl) ?_ | refine ldStr_i (S.cell 6 rfl rfl) ?_ | refine ldStr_i (S.cell 7 rfl rfl) ?_ | refine ldStr_i (S.cellR 0 rfl rfl) ?_ | refine ldStr_i (S.cellR 1 rfl rfl) ?_ | refine ldStr_i (S.cellR 2 rfl rfl) ?_ | refine stI_S S 0 rfl (Nat.le_of_ble_eq_true rfl) (fun _ _ S => ?_) | refine stI_S S 1 rfl (Nat.le_of_ble_eq_true rfl) (fun _ _ S => ?_) | refine stI_S S 2 rfl (Nat.le_of_ble_eq_true rfl) (fun _ _ S => ?_) | refine stI_S S 3 rfl (Nat.le_of_ble_eq_true rfl) (fun _ _ S => ?_) | refine stI_S S 4 rfl (Nat.le_of_ble_eq_true rfl) (fun _ _ S => ?_) | refine stI_S S 5 rfl (Nat.le_of_ble_eq_true rfl) (fun _ _ S => ?_) | refine stI_S S 6 rfl (Nat.le_of_ble_eq_true rfl) (fun _ _ S => ?_) | refine stI_S S 7 rfl (Nat.le_of_ble_eq_true rfl) (fun _ _ S => ?_)))
        simp only [Int.toNat_natCast, Nat.mul_one]
        refine ldInt_i ((S.row 0 rfl).cell (ints_get (List.getElem?_eq_getElem hlt))) ?_
        have e1 : andI .i64 ys[i] 65535 = ys[i] % 65536 := andI_low _ 65535 16 rfl (by decide)
        rw [e1, wrap64_in (by omega), wrap64_in (by omega)]
        refine newI_S S (fun b59 _ _ S => ?_)
        refine appI_S S 2 (ys := ints [w.off + ys[i] % 65536]) rfl rfl (by decide) (by omega) (Row.of_at (S.at 4 rfl)) rfl (by simp [ints, one1]) fun p' l' c' h' hl' S => ?_
        refine ⟨S.cell 0 rfl rfl, 60 - (i + 1), by omega, i + 1, p', l', c', L2 ++ [w.off + ys[i] % 65536], rfl, by omega, by omega, rfl, by omega, (by simp; omega), fun x hx => ?_, ?_⟩
        · simp only [List.mem_append, List.mem_singleton] at hx
          rcases hx with hx | rfl
          · exact hbt x hx
          · omega
        · have e : ints L2 ++ ints [w.off + ys[i] % 65536] = ints (L2 ++ [w.off + ys[i] % 65536]) := by simp [ints]
          rw [e] at S
          exact S.pick [0, 1, 2, 3] [0]
  · refine LoopS_i (fun n s g => ∃ (i : Nat) (q : Option Addr) (k e : Nat) (L2 : List Int), s = ((p2, l2, d2), true, ⟨b13, 0, none⟩, some ⟨b22, 0, none⟩, (q, k, e), (i : Int), ()) ∧ i ≤ 60 ∧ i ≤ l2 ∧ n = 60 - i ∧ k ≤ i ∧ L2.length = k ∧ (∀ x ∈ L2, w.off ≤ x ∧ x < w.on) ∧
      Sep h no g [blk b13 [.int .i64 w.on, .int .i64 w.off, .int .i64 w.hold], wk b22 w m, own 1 q k e (ints L2)] [row p2 (ints ys)]) 60 ⟨0, none, 0, 0, [], rfl, by omega, by omega, rfl, by omega, rfl, by simp, S⟩ ?_
    rintro n s g ⟨i, q, k, e, L2, rfl, hi, hi2, rfl, hk, hL2, hbt, S⟩
    unfold law25_WakeBetween_l7
    dsimp only
    have fin : ∃ q' k' e' L2', (((p2, l2, d2), true, ⟨b13, 0, none⟩, some ⟨b22, 0, none⟩, (q, k, e), ()) : (Option Addr × Nat × Nat) × Bool × Addr × Option Addr × (Option Addr × Nat × Nat) × Unit) =
        ((p2, l2, d2), true, ⟨b13, 0, none⟩, some ⟨b22, 0, none⟩, (q', k', e'), ()) ∧ k' ≤ 60 ∧ L2'.length = k' ∧ (∀ x ∈ L2', w.off ≤ x ∧ x < w.on) ∧
        Sep h no g [blk b13 [.int .i64 w.on, .int .i64 w.off, .int .i64 w.hold], wk b22 w m, own 1 q' k' e' (ints L2')] [row p2 (ints ys)] := ⟨q, k, e, L2, rfl, by omega, hL2, hbt, S⟩
    refine ⟨fun s g' => g' = g ∧ s = ((p2, l2, d2), true, ⟨b13, 0, none⟩, some ⟨b22, 0, none⟩, (q, k, e), (i : Int), ()) ∧ i < l2 ∧ i < 60 ∧ w.off < w.on, ?_, ?_⟩
    · rintro s g' ⟨rfl, rfl, h1, h2, h3⟩
      unfold law25_WakeBetween_j9
      dsimp only
      have hlt : i < ys.length := by omega
      obtain ⟨a66, rfl⟩ := (S.row 0 rfl).some_of (by rw [ints_length]; omega)
      refine idxI_i rfl rfl (by omega) ?_
      (repeat (first | refine nilI_some ?_ | refine arrI_i (by decide) (by decide) ?_ | refine ldInt_i (S.cell 0 rfl rfl) ?_ | refine ldInt_i (S.cell 1 rfl rfl) ?_ | refine ldInt_i (S.cell 2 rfl rfl) ?_ | refine ldInt_i (S.cell 3 rfl rfl) ?_ | refine ldInt_i (S.cell 4 rfl rfl) ?_ | refine ldInt_i (S.cell 5 rfl rfl) ?_ | refine ldInt_i (S.cell 6 rfl rfl) ?_ | refine ldInt_i (S.cell 7 rfl rfl) ?_ | refine ldInt_i (S.cellR 0 rfl rfl) ?_ | refine ldInt_i (S.cellR 1 rfl rfl) ?_ | refine ldInt_i (S.cellR 2 rfl rfl) ?_ | refine ldBool_i (S.cell 0 rfl rfl) ?_ | refine ldBool_i (S.cell 1 rfl rfl) ?_ | refine ldBool_i (S.cell 2 rfl rfl) ?_ | refine ldBool_i (S.cell 3 rfl rfl) ?_ | refine ldBool_i (S.cell 4 rfl rfl) ?_ | refine ldBool_i (S.cell 5 rfl rfl) ?_ | refine ldBool_i (S.cell 6 rfl rfl) ?_ | refine ldBool_i (S.cell 7 rfl rfl) ?_ | refine ldBool_i (S.cellR 0 rfl rfl) ?_ | refine ldBool_i (S.cellR 1 rfl rfl) ?_ | refine ldBool_i (S.cellR 2 rfl rfl) ?_ | refine ldPtr_i (S.cell 0 rfl rfl) ?_ | refine ldPtr_i (S.cell 1 rfl rfl) ?_ | refine ldPtr_i (S.cell 2 rfl rfl) ?_ | refine ldPtr_i (S.cell 3 rfl rfl) ?_ | refine ldPtr_i (S.cell 4 rfl rfl) ?_ | refine ldPtr_i (S.cell 5 rfl rfl) ?_ | refine ldPtr_i (S.cell 6 rfl rfl) ?_ | refine ldPtr_i (S.cell 7 rfl rfl) ?_ | refine ldPtr_i (S.cellR 0 rfl rfl) ?_ | refine ldPtr_i (S.cellR 1 rfl rfl) ?_ | refine ldPtr_i (S.cellR 2 rfl rfl) ?_ | refine ldSlice_i (S.cell 0 rfl rfl) ?_ | refine ldSlice_i (S.cell 1 rfl rfl) ?_ | refine ldSlice_i (S.cell 2 rfl rfl) ?_ | refine ldSlice_i (S.cell 3 rfl rfl) ?_ | refine ldSlice_i (S.cell 4 rfl rfl) ?_ | refine ldSlice_i (S.cell 5 rfl rfl) ?_ | refine ldSlice_i (S.cell 6 rfl rfl) ?_ | refine ldSlice_i (S.cell 7 rfl rfl) ?_ | refine ldSlice_i (S.cellR 0 rfl rfl) ?_ | refine ldSlice_i (S.cellR 1 rfl rfl) ?_ | refine ldSlice_i (S.cellR 2 rfl rfl) ?_ | refine ldStr_i (S.cell 0 rfl rfl) ?_ | refine ldStr_i (S.cell 1 rfl rfl) ?_ | refine ldStr_i (S.cell 2 rfl rfl) ?_ | refine ldStr_i (S.cell 3 rfl rfl) ?_ | refine ldStr_i (S.cell 4 rfl rfl) ?_ | refine ldStr_i (S.cell 5 rfl rfl) ?_ | refine ldStr_i (S.cell 6 rfl rfl) ?_ | refine ldStr_i (S.cell 7 rfl rfl) ?_ | refine ldStr_i (S.cellR 0 rfl rfl) ?_ | refine ldStr_i (S.cellR 1 rfl rfl) ?_ | refine ldStr_i (S.cellR 2 rfl rfl) ?_ | refine stI_S S 0 rfl (Nat.le_of_ble_eq_true rfl) (fun _ _ S => ?_) | refine stI_S S 1 rfl (Nat.le_of_ble_eq_true rfl) (fun _ _ S => ?_) | refine stI_S S 2 rfl (Nat.le_of_ble_eq_true rfl) (fun _ _ S => ?_) | refine stI_S S 3 rfl (Nat.le_of_ble_eq_true rfl) (fun _ _ S => ?_) | refine stI_S S 4 rfl (Nat.le_of_ble_eq_true rfl) (fun _ _ S => ?_) | refine stI_S S 5 rfl (Nat.le_of_ble_eq_true rfl) (fun _ _ S => ?_) | refine stI_S S 6 rfl (Nat.le_of_ble_eq_true rfl) (fun _ _ S => ?_) | refine stI_S S 7 rfl (Nat.le_of_ble_eq_true rfl) (fun _ _ S => ?_)))
      simp only [Int.toNat_natCast, Nat.mul_one]
      refine ldInt_i ((S.row 0 rfl).cell (ints_get (List.getElem?_eq_getElem hlt))) ?_
      (repeat (first | refine nilI_some ?_ | refine arrI_i (by decide) (by decide) ?_ | refine ldInt_i (S.cell 0 rfl rfl) ?_ | refine ldInt_i (S.cell 1 rfl rfl) ?_ | refine ldInt_i (S.cell 2 rfl rfl) ?_ | refine ldInt_i (S.cell 3 rfl rfl) ?_ | refine ldInt_i (S.cell 4 rfl rfl) ?_ | refine ldInt_i (S.cell 5 rfl rfl) ?_ | refine ldInt_i (S.cell 6 rfl rfl) ?_ | refine ldInt_i (S.cell 7 rfl rfl) ?_ | refine ldInt_i (S.cellR 0 rfl rfl) ?_ | refine ldInt_i (S.cellR 1 rfl rfl) ?_ | refine ldInt_i (S.cellR 2 rfl rfl) ?_ | refine ldBool_i (S.cell 0 rfl rfl) ?_ | refine ldBool_i (S.cell 1 rfl rfl) ?_ | refine ldBool_i (S.cell 2 rfl rfl) ?_ | refine ldBool_i (S.cell 3 rfl rfl) ?_ | refine ldBool_i (S.cell 4 rfl rfl) ?_ | refine ldBool_i (S.cell 5 rfl rfl) ?_ | refine ldBool_i (S.cell 6 rfl rfl) ?_ | refine ldBool_i (S.cell 7 rfl rfl) ?_ | refine ldBool_i (S.cellR 0 rfl rfl) ?_ | refine ldBool_i (S.cellR 1 rfl rfl) ?_ | refine ldBool_i (S.cellR 2 rfl rfl) ?_ | refine ldPtr_i (S.cell 0 rfl rfl) ?_ | refine ldPtr_i (S.cell 1 rfl rfl) ?_ | refine ldPtr_i (S.cell 2 rfl rfl) ?_ | refine ldPtr_i (S.cell 3 rfl rfl) ?_ | refine ldPtr_i (S.cell 4 rfl rfl) ?_ | refine ldPtr_i (S.cell 5 rfl rfl) ?_ | refine ldPtr_i (S.cell 6 rfl rfl) ?_ | refine ldPtr_i (S.cell 7 rfl rfl) ?_ | refine ldPtr_i (S.cellR 0 rfl rfl) ?_ | refine ldPtr_i (S.cellR 1 rfl rfl) ?_ | refine ldPtr_i (S.cellR 2 rfl rfl) ?_ | refine ldSlice_i (S.cell 0 rfl rfl) ?_ | refine ldSlice_i (S.cell 1 rfl rfl) ?_ | refine ldSlice_i (S.cell 2 rfl rfl) ?_ | refine ldSlice_i (S.cell 3 rfl rfl) ?_ | refine ldSlice_i (S.cell 4 rfl rfl) ?_ | refine ldSlice_i (S.cell 5 rfl rfl) ?_ | refine ldSlice_i (S.cell 6 rfl rfl) ?_ | refine ldSlice_i (S.cell 7 rfl rfl) ?_ | refine ldSlice_i (S.cellR 0 rfl rfl) ?_ | refine ldSlice_i (S.cellR 1 rfl rfl) ?_ | refine ldSlice_i (S.cellR 2 rfl rfl) ?_ | refine ldStr_i (S.cell 0 rfl rfl) ?_ | refine ldStr_i (S.cell 1 rfl rfl) ?_ | refine ldStr_i (S.cell 2 rfl rfl) ?_ | refine ldStr_i (S.cell 3 rfl rfl) ?_ | refine ldStr_i (S.cell 4 rfl rfl) ?_ | refine ldStr_i (S.cell 5 rfl rfl) ?_ | refine ldStr_i (S.cell 6 rfl rfl) ?_ | refine ldStr_i (S.cell 7 rfl rfl) ?_ | refine ldStr_i (S.cellR 0 rfl rfl) ?_ | refine ldStr_i (S.cellR 1 rfl rfl) ?_ | refine ldStr_i (S.cellR 2 rfl rfl) ?_ | refine stI_S S 0 rfl (Nat.le_of_ble_eq_true rfl) (fun _ _ S => ?_) | refine stI_S S 1 rfl (Nat.le_of_ble_eq_true rfl) (fun _ _ S => ?_) | refine stI_S S 2 rfl (Nat.le_of_ble_eq_true rfl) (fun _ _ S => ?_) | refine stI_S S 3 rfl (Nat.le_of_ble_eq_true rfl) (fun _ _ S => ?_) | refine stI_S S 4 rfl (Nat.le_of_ble_eq_true rfl) (fun _ _ S => ?_) | refine stI_S S 5 rfl (Nat.le_of_ble_eq_true rfl) (fun _ _ S => ?_) | refine stI_S S 6 rfl (Nat.le_of_ble_eq_true rfl) (fun _ _ S => ?_) | refine stI_S S 7 rfl (Nat.le_of_ble_eq_true rfl) (fun _ _ S => ?_)))
      have e1 : andI .i64 ys[i] 65535 = ys[i] % 65536 := andI_low _ 65535 16 rfl (by decide)
      have hb := tmod_bound (ys[i] % 65536) (m := w.on - w.off) (by omega)
      have hb0 : 0 ≤ Int.tmod (ys[i] % 65536) (w.on - w.off) := Int.tmod_nonneg _ (by omega)
      rw [wrap64_in (show _ ∧ w.on - w.off < _ by omega)]
      refine ⟨by omega, ?_⟩
      rw [e1, wrap64_in (by omega), wrap64_in (by omega)]
      refine newI_S S (fun b71 _ _ S => ?_)
      generalize hz : w.off + Int.tmod (ys[i] % 65536) (w.on - w.off) = z at *
      refine appI_S S 2 (ys := ints [z]) rfl rfl (by decide) (by omega) (Row.of_at (S.at 3 rfl)) rfl (by simp [ints, one1]) fun p' l' c' h' hl' S => ?_
      refine ⟨S.cell 0 rfl rfl, (S.row 0 rfl).cell (ints_get (List.getElem?_eq_getElem hlt)), S.cell 0 rfl rfl, 60 - (i + 1), by omega, i + 1, p', l', c', L2 ++ [z], rfl, by omega, by omega, rfl, by omega, (by simp; omega), fun x hx => ?_, ?_⟩
      · simp only [List.mem_append, List.mem_singleton] at hx
        rcases hx with hx | rfl
        · exact hbt x hx
        · omega
      · have e : ints L2 ++ ints [z] = ints (L2 ++ [z]) := by simp [ints]
        rw [e] at S
        exact S.pick [0, 1, 2] [0]
    · refine ifB_dec (fun h1 => ifB_dec (fun h2 => ?_) fun h2 => fin) fun h1 => fin
      (repeat (first | refine nilI_some ?_ | refine arrI_i (by decide) (by decide) ?_ | refine ldInt_i (S.cell 0 rfl rfl) ?_ | refine ldInt_i (S.cell 1 rfl rfl) ?_ | refine ldInt_i (S.cell 2 rfl rfl) ?_ | refine ldInt_i (S.cell 3 rfl rfl) ?_ | refine ldInt_i (S.cell 4 rfl rfl) ?_ | refine ldInt_i (S.cell 5 rfl rfl) ?_ | refine ldInt_i (S.cell 6 rfl rfl) ?_ | refine ldInt_i (S.cell 7 rfl rfl) ?_ | refine ldInt_i (S.cellR 0 rfl rfl) ?_ | refine ldInt_i (S.cellR 1 rfl rfl) ?_ | refine ldInt_i (S.cellR 2 rfl rfl) ?_ | refine ldBool_i (S.cell 0 rfl rfl) ?_ | refine ldBool_i (S.cell 1 rfl rfl) ?_ | refine ldBool_i (S.cell 2 rfl rfl) ?_ | refine ldBool_i (S.cell 3 rfl rfl) ?_ | refine ldBool_i (S.cell 4 rfl rfl) ?_ | refine ldBool_i (S.cell 5 rfl rfl) ?_ | refine ldBool_i (S.cell 6 rfl rfl) ?_ | refine ldBool_i (S.cell 7 rfl rfl) ?_ | refine ldBool_i (S.cellR 0 rfl rfl) ?_ | refine ldBool_i (S.cellR 1 rfl rfl) ?_ | refine ldBool_i (S.cellR 2 rfl rfl) ?_ | refine ldPtr_i (S.cell 0 rfl rfl) ?_ | refine ldPtr_i (S.cell 1 rfl rfl) ?_ | refine ldPtr_i (S.cell 2 rfl rfl) ?_ | refine ldPtr_i (S.cell 3 rfl rfl) ?_ | refine ldPtr_i (S.cell 4 rfl rfl) ?_ | refine ldPtr_i (S.cell 5 rfl rfl) ?_ | refine ldPtr_i (S.cell 6 rfl rfl) ?_ | refine ldPtr_i (S.cell 7 rfl rfl) ?_ | refine ldPtr_i (S.cellR 0 rfl rfl) ?_ | refine ldPtr_i (S.cellR 1 rfl rfl) ?_ | refine ldPtr_i (S.cellR 2 rfl rfl) ?_ | refine ldSlice_i (S.cell 0 rfl rfl) ?_ | refine ldSlice_i (S.cell 1 rfl rfl) ?_ | refine ldSlice_i (S.cell 2 rfl rfl) ?_ | refine ldSlice_i (S.cell 3 rfl rfl) ?_ | refine ldSlice_i (S.cell 4 rfl rfl) ?_ | refine ldSlice_i (S.cell 5 rfl rfl) ?_ | refine ldSlice_i (S.cell 6 rfl rfl) ?_ | refine ldSlice_i (S.cell 7 rfl rfl) ?_ | refine ldSlice_i (S.cellR 0 rfl rfl) ?_ | refine ldSlice_i (S.cellR 1 rfl rfl) ?_ | refine ldSlice_i (S.cellR 2 rfl rfl) ?_ | refine ldStr_i (S.cell 0 rfl rfl) ?_ | refine ldStr_i (S.cell 1 rfl rfl) ?_ | refine ldStr_i (S.cell 2 rfl rfl) ?_ | refine ldStr_i (S.cell 3 rfl rfl) ?_ | refine ldStr_i (S.cell 4 rfl rfl) ?_ | refine ldStr_i (S.cell 5 rfl rfl) ?_ | refine ldStr_i (S.cell 6 rfl rfl) ?_ | refine ldStr_i (S.cell 7 rfl rfl) ?_ | refine ldStr_i (S.cellR 0 rfl rfl) ?_ | refine ldStr_i (S.cellR 1 rfl rfl) ?_ | refine ldStr_i (S.cellR 2 rfl rfl) ?_ | refine stI_S S 0 rfl (Nat.le_of_ble_eq_true rfl) (fun _ _ S => ?_) | refine stI_S S 1 rfl (Nat.le_of_ble_eq_true rfl) (fun _ _ S => ?_) | refine stI_S S 2 rfl (Nat.le_of_ble_eq_true rfl) (fun _ _ S => ?_) | refine stI_S S 3 rfl (Nat.le_of_ble_eq_true rfl) (fun _ _ S => ?_) | refine stI_S S 4 rfl (Nat.le_of_ble_eq_true rfl) (fun _ _ S => ?_) | refine stI_S S 5 rfl (Nat.le_of_ble_eq_true rfl) (fun _ _ S => ?_) | refine stI_S S 6 rfl (Nat.le_of_ble_eq_true rfl) (fun _ _ S => ?_) | refine stI_S S 7 rfl (Nat.le_of_ble_eq_true rfl) (fun _ _ S => ?_)))
      exact ifB_dec (fun h3 => ⟨rfl, rfl, by omega, by omega, h3⟩) fun h3 => fin

end Go.Proofs.Ytoobckjlkopikaa.G
